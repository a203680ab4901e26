/- What a record's line is, as lists of bytes: how long it is, that it is the only one ahead of a text, what Cut and a search by runes answer. No conditions. -/
import Derived.Lib.ItoaLen
import Derived.Lib.IndexLaws
import Derived.Lib.IndexMore
import Derived.Lib.IndexBytes
import Derived.Lib.Atoi
import Derived.Shelf.GgClosure.StringsIndexFunc
namespace Go.Proofs.YtcbeehchhhoeeaaDoor.P
open Go Go.RowKit Go.Shelf Go.Lib
set_option linter.unusedVariables false
set_option linter.unusedSimpArgs false

/-! ### How many digits -/
theorem nd_mono : ∀ (b a : Nat), a ≤ b → nDigits a ≤ nDigits b := by
  intro b
  induction b using Nat.strongRecOn with
  | _ b ih =>
    intro a h
    by_cases hb : b < 10
    · rw [nDigits_small hb, nDigits_small (by omega)]; exact Nat.le_refl _
    · rw [nDigits_big hb]
      by_cases ha : a < 10
      · rw [nDigits_small ha]; omega
      · rw [nDigits_big ha]
        have := ih (b / 10) (by omega) (a / 10) (by omega)
        omega
theorem nd_succ : ∀ (a : Nat), nDigits (a + 1) ≤ nDigits a + 1 := by
  intro a
  induction a using Nat.strongRecOn with
  | _ a ih =>
    by_cases h : a + 1 < 10
    · rw [nDigits_small h]; omega
    · rw [nDigits_big h]
      by_cases ha : a < 10
      · have e : a = 9 := by omega
        subst e
        rw [show (9 + 1) / 10 = 1 from rfl, nDigits_small (by omega), nDigits_small (by omega)]
        omega
      · rw [nDigits_big ha]
        by_cases hc : (a + 1) / 10 = a / 10
        · rw [hc]; omega
        · have e : (a + 1) / 10 = a / 10 + 1 := by omega
          rw [e]
          have := ih (a / 10) (by omega)
          omega
theorem nd_le : ∀ (k u : Nat), u < 10 ^ (k + 1) → nDigits u ≤ k + 1
  | 0, u, h => by rw [nDigits_small (by simpa using h)]; omega
  | k + 1, u, h => by
    by_cases hu : u < 10
    · rw [nDigits_small hu]; omega
    · rw [nDigits_big hu]
      rw [Nat.pow_succ] at h
      have := nd_le k (u / 10) (by omega)
      omega
/-- The least number of digits, from one on, that a line of L bytes behind it has. -/
def fd (L : Nat) : Nat → Nat → Nat
  | 0, d => d
  | f + 1, d => if nDigits (L + d) = d then d else fd L f (d + 1)
theorem fd_spec (L : Nat) : ∀ (f d : Nat), d ≤ nDigits (L + d) → nDigits (L + (d + f)) ≤ d + f → nDigits (L + fd L f d) = fd L f d ∧ (∀ e, d ≤ e → e < fd L f d → nDigits (L + e) ≠ e) ∧ d ≤ fd L f d ∧ fd L f d ≤ d + f
  | 0, d, h, hb => ⟨by unfold fd; rw [Nat.add_zero] at hb; omega, fun e h1 h2 => by unfold fd at h2; omega, by unfold fd; omega, by unfold fd; omega⟩
  | f + 1, d, h, hb => by
    unfold fd
    by_cases hd : nDigits (L + d) = d
    · rw [if_pos hd]
      exact ⟨hd, fun e h1 h2 => by omega, Nat.le_refl _, by omega⟩
    · rw [if_neg hd]
      have hm := nd_mono (L + (d + 1)) (L + d) (by omega)
      obtain ⟨a, b, c, e⟩ := fd_spec L f (d + 1) (by omega) (by rw [show d + 1 + f = d + (f + 1) by omega]; exact hb)
      refine ⟨a, fun e h1 h2 => ?_, by omega, by omega⟩
      by_cases he : e = d
      · rw [he]; exact hd
      · exact b e (by omega) h2
/-- How many digits a line's length has, that has L bytes behind them. -/
def ld (L : Nat) : Nat := fd L 15 1
theorem ld_spec (L : Nat) (h : L ≤ 1000000000000000) : nDigits (L + ld L) = ld L ∧ (∀ e, 1 ≤ e → e < ld L → nDigits (L + e) ≠ e) ∧ 1 ≤ ld L ∧ ld L ≤ 16 :=
  fd_spec L 15 1 (nDigits_pos _) (nd_le 15 _ (by omega))
/-- From below, one round of counting digits comes nearer to it. -/
theorem ld_step (L e : Nat) (h : L ≤ 1000000000000000) (h1 : 1 ≤ e) (h2 : e ≤ ld L) (h3 : e ≤ nDigits (L + e)) : nDigits (L + e) ≤ ld L ∧ nDigits (L + e) ≤ nDigits (L + nDigits (L + e)) ∧ (nDigits (L + e) = e → e = ld L) := by
  obtain ⟨a, b, c, d⟩ := ld_spec L h
  refine ⟨?_, nd_mono _ _ (by omega), fun he => ?_⟩
  · have := nd_mono (L + ld L) (L + e) (by omega)
    omega
  · rcases Nat.lt_or_ge e (ld L) with hl | hl
    · exact (b e h1 hl he).elim
    · omega
/-! ### A record's line -/
def okb (b : UInt8) : Bool := decide (33 ≤ b.toNat) && (decide (b.toNat ≤ 126) && decide (b.toNat ≠ 61))
def okR (k v : List UInt8) : Bool := k.all okb && (v.all (fun b => decide (b.toNat ≠ 0)) && decide (k ≠ []))
def restL (k v : List UInt8) : List UInt8 := 32 :: (k ++ 61 :: (v ++ [10]))
theorem restL_len (k v : List UInt8) : (restL k v).length = k.length + v.length + 3 := by unfold restL; simp; omega
/-- How long a line is. -/
def lnN (k v : List UInt8) : Nat := k.length + v.length + 3 + ld (k.length + v.length + 3)
def lineL (k v : List UInt8) : List UInt8 := decDigits (lnN k v) ++ restL k v
theorem lineL_len (k v : List UInt8) (h : k.length + v.length ≤ 100000000000000) : (lineL k v).length = lnN k v := by
  unfold lineL
  rw [List.length_append, decDigits_length, restL_len]
  have := (ld_spec (k.length + v.length + 3) (by omega)).1
  unfold lnN
  omega
theorem lnN_le (k v : List UInt8) (h : k.length + v.length ≤ 100000000000000) : k.length + v.length + 4 ≤ lnN k v ∧ lnN k v ≤ k.length + v.length + 19 := by
  have := ld_spec (k.length + v.length + 3) (by omega)
  unfold lnN
  omega
/-! ### Digits -/
def dgb (b : UInt8) : Bool := decide (48 ≤ b.toNat ∧ b.toNat ≤ 57)
theorem dgb_iff (b : UInt8) : dgb b = true ↔ 48 ≤ b.toNat ∧ b.toNat ≤ 57 := by unfold dgb; exact decide_eq_true_iff
theorem dgN (u : Nat) (h : u < 10) : (UInt8.ofNat (48 + u)).toNat = 48 + u := by
  rw [UInt8.toNat_ofNat']
  omega
theorem dd_dig (u : Nat) : ∀ b ∈ decDigits u, dgb b = true := by
  induction u using Nat.strongRecOn with
  | _ u ih =>
    rw [decDigits]
    by_cases h : u < 10
    · rw [dif_pos h]
      intro b hb
      rw [List.mem_singleton] at hb
      rw [hb, dgb_iff, dgN u h]
      omega
    · rw [dif_neg h]
      intro b hb
      rcases List.mem_append.1 hb with hb | hb
      · exact ih _ (by omega) b hb
      · rw [List.mem_singleton] at hb
        rw [hb, dgb_iff, dgN _ (by omega)]
        omega
theorem dd_ne (u : Nat) : decDigits u ≠ [] := by
  intro e
  have h := decDigits_length u
  have := nDigits_pos u
  rw [e, List.length_nil] at h
  omega
/-- The number that digits tell. -/
def dv (acc : Nat) (l : List UInt8) : Nat := l.foldl (fun a b => a * 10 + (b.toNat - 48)) acc
theorem dv_app (a b : List UInt8) (acc : Nat) : dv acc (a ++ b) = dv (dv acc a) b := by unfold dv; rw [List.foldl_append]
theorem dd_dv (u : Nat) : dv 0 (decDigits u) = u := by
  induction u using Nat.strongRecOn with
  | _ u ih =>
    rw [decDigits]
    by_cases h : u < 10
    · rw [dif_pos h]
      unfold dv
      rw [List.foldl_cons, List.foldl_nil, dgN u h]
      omega
    · rw [dif_neg h, dv_app, ih _ (by omega)]
      unfold dv
      rw [List.foldl_cons, List.foldl_nil, dgN _ (by omega)]
      omega
theorem decFrom_dv : ∀ (l : List UInt8) (acc : Nat), (∀ b ∈ l, dgb b = true) → decFrom acc l = some (dv acc l)
  | [], _, _ => rfl
  | b :: r, acc, h => by
    have hb := (dgb_iff b).1 (h b (by simp))
    have hd : digitVal b = some (b.toNat - 48) := by unfold digitVal; rw [if_pos hb]
    simp only [decFrom, hd]
    exact decFrom_dv r _ (fun x hx => h x (by simp [hx]))
theorem atoi_dig (l : List UInt8) (h : ∀ b ∈ l, dgb b = true) (hne : l ≠ []) : atoi l = some ((dv 0 l : Nat) : Int) := by
  cases l with
  | nil => exact absurd rfl hne
  | cons b r =>
    have hb := (dgb_iff b).1 (h b (by simp))
    have n1 : (b == 45) = false := beq_eq_false_iff_ne.2 (fun e => by subst e; revert hb; decide)
    have n2 : (b == 43) = false := beq_eq_false_iff_ne.2 (fun e => by subst e; revert hb; decide)
    unfold atoi
    simp only
    rw [n1, n2]
    have e : decNat (b :: r) = some (dv 0 (b :: r)) := by
      unfold decNat
      rw [if_neg (by simp)]
      exact decFrom_dv _ 0 h
    simp only [e, Bool.false_eq_true, if_false, Option.map_some]
theorem atoi_dd (u : Nat) : atoi (decDigits u) = some (u : Int) := by rw [atoi_dig _ (dd_dig u) (dd_ne u), dd_dv]
/-! ### Cut -/
theorem ix_no : ∀ (l : List UInt8) (c : UInt8), (∀ b ∈ l, b ≠ c) → indexByte l c = -1
  | [], _, _ => rfl
  | b :: r, c, h => by
    have h1 : (b == c) = false := beq_eq_false_iff_ne.2 (h b (by simp))
    have h2 := ix_no r c (fun x hx => h x (by simp [hx]))
    simp [indexByte, h1, h2, h b (by simp)]
theorem ix_at : ∀ (l t : List UInt8) (c : UInt8), (∀ b ∈ l, b ≠ c) → indexByte (l ++ c :: t) c = l.length
  | [], t, c, _ => by simp [indexByte]
  | b :: r, t, c, h => by
    have h1 : (b == c) = false := beq_eq_false_iff_ne.2 (h b (by simp))
    have h2 := ix_at r t c (fun x hx => h x (by simp [hx]))
    have hb := h b (by simp)
    rw [List.cons_append]
    simp [indexByte, h1, h2, hb]
theorem cutL_no (l : List UInt8) (c : UInt8) (h : ∀ b ∈ l, b ≠ c) : cut l [c] = (l, [], false) := by
  unfold cut
  rw [index_one, ix_no l c h, if_neg (by omega)]
theorem cutL_at (l t : List UInt8) (c : UInt8) (h : ∀ b ∈ l, b ≠ c) : cut (l ++ c :: t) [c] = (l, t, true) := by
  unfold cut
  rw [index_one, ix_at l t c h, if_pos (by omega)]
  simp
/-- Whether a byte is in a text: the part ahead of its first place, or none. -/
theorem split_at (c : UInt8) : ∀ (l : List UInt8), (∀ b ∈ l, b ≠ c) ∨ ∃ a t, l = a ++ c :: t ∧ ∀ b ∈ a, b ≠ c
  | [] => .inl (by simp)
  | b :: r => by
    by_cases hb : b = c
    · exact .inr ⟨[], r, by rw [hb]; rfl, by simp⟩
    · rcases split_at c r with h | ⟨a, t, rfl, h⟩
      · refine .inl (fun x hx => ?_)
        rcases List.mem_cons.1 hx with rfl | hx
        · exact hb
        · exact h x hx
      · refine .inr ⟨b :: a, t, rfl, fun x hx => ?_⟩
        rcases List.mem_cons.1 hx with rfl | hx
        · exact hb
        · exact h x hx
theorem app_inj (c : UInt8) : ∀ (a a' t t' : List UInt8), a ++ c :: t = a' ++ c :: t' → (∀ b ∈ a, b ≠ c) → (∀ b ∈ a', b ≠ c) → a = a' ∧ t = t'
  | [], [], t, t', h, _, _ => ⟨rfl, by simpa using h⟩
  | [], b :: r, t, t', h, _, h2 => by
    rw [List.nil_append, List.cons_append] at h
    exact (h2 b (by simp) (List.cons.inj h).1.symm).elim
  | b :: r, [], t, t', h, h1, _ => by
    rw [List.nil_append, List.cons_append] at h
    exact (h1 b (by simp) (List.cons.inj h).1).elim
  | b :: r, b' :: r', t, t', h, h1, h2 => by
    rw [List.cons_append, List.cons_append] at h
    obtain ⟨e1, e2⟩ := List.cons.inj h
    obtain ⟨e3, e4⟩ := app_inj c r r' t t' e2 (fun x hx => h1 x (by simp [hx])) (fun x hx => h2 x (by simp [hx]))
    exact ⟨by rw [e1, e3], e4⟩
theorem dig_no32 (l : List UInt8) (h : ∀ b ∈ l, dgb b = true) : ∀ b ∈ l, b ≠ 32 := fun b hb e => by
  have := (dgb_iff b).1 (h b hb)
  rw [e] at this
  exact absurd this.1 (by decide)
theorem ok_no61 (k : List UInt8) (h : k.all okb = true) : ∀ b ∈ k, b ≠ 61 := fun b hb e => by
  have := List.all_eq_true.1 h b hb
  rw [e] at this
  exact absurd this (by decide)
theorem okR_key {k v : List UInt8} (h : okR k v = true) : k.all okb = true := by
  unfold okR at h
  exact (Bool.and_eq_true _ _ ▸ h).1
/-- There is but one line ahead of a text. -/
theorem line_one {k v k' v' t t' : List UInt8} (hk : k.all okb = true) (hk' : k'.all okb = true) (hl : k.length + v.length ≤ 100000000000000) (hl' : k'.length + v'.length ≤ 100000000000000) (h : lineL k v ++ t = lineL k' v' ++ t') : k = k' ∧ v = v' ∧ t = t' := by
  have e1 : lineL k v ++ t = decDigits (lnN k v) ++ 32 :: (k ++ 61 :: (v ++ 10 :: t)) := by unfold lineL restL; simp
  have e2 : lineL k' v' ++ t' = decDigits (lnN k' v') ++ 32 :: (k' ++ 61 :: (v' ++ 10 :: t')) := by unfold lineL restL; simp
  have h0 := h
  rw [e1, e2] at h0
  obtain ⟨a, b⟩ := app_inj 32 _ _ _ _ h0 (dig_no32 _ (dd_dig _)) (dig_no32 _ (dd_dig _))
  obtain ⟨c, d⟩ := app_inj 61 _ _ _ _ b (ok_no61 k hk) (ok_no61 k' hk')
  have hn : lnN k v = lnN k' v' := by
    have x1 := dd_dv (lnN k v)
    rw [a, dd_dv] at x1
    exact x1.symm
  have hle : (lineL k v).length = (lineL k' v').length := by rw [lineL_len k v hl, lineL_len k' v' hl', hn]
  have hp := List.append_inj h hle
  refine ⟨c, ?_, hp.2⟩
  have hv : v.length = v'.length := by
    have x := hle
    unfold lineL restL at x
    rw [a, c] at x
    simp at x
    exact x
  exact (List.append_inj d hv).1
/-! ### A search by runes -/
def oddr (r : Nat) : Bool := decide (r < 33) || (decide (126 < r) || decide (r = 61))
theorem drop_at {l : List UInt8} {i : Nat} (h : i < l.length) : l.drop i = l[i] :: l.drop (i + 1) := List.drop_eq_getElem_cons h
theorem okb_odd (b : UInt8) : okb b = !oddr b.toNat := by
  unfold okb oddr
  by_cases h1 : b.toNat < 33 <;> by_cases h2 : 126 < b.toNat <;> by_cases h3 : b.toNat = 61 <;> simp [h1, h2, h3] <;> omega
theorem idx_ok (s : ByteArray) : ∀ (f pos : Nat), s.size ≤ pos + f → decide (0 ≤ idxFuncFrom oddr true s f pos) = !((s.data.toList.drop pos).all okb)
  | 0, pos, h => by
    unfold idxFuncFrom
    rw [List.drop_eq_nil_of_le (by rw [Array.length_toList]; exact h)]
    rfl
  | f + 1, pos, h => by
    unfold idxFuncFrom
    by_cases hp : pos < s.size
    · rw [if_pos hp]
      have hl : pos < s.data.toList.length := by rw [Array.length_toList]; exact hp
      have hb : s.data.toList[pos] = s[pos]'hp := by rw [Array.getElem_toList]; rfl
      rw [drop_at hl, List.all_cons, hb, okb_odd]
      by_cases ha : (s[pos]'hp).toNat < 128
      · rw [decode_ascii s pos hp ha]
        cases hq : oddr (s[pos]'hp).toNat with
        | true => rw [if_pos rfl, Bool.not_true, Bool.false_and, Bool.not_false]; exact decide_eq_true (by omega)
        | false =>
          rw [if_neg (by simp), Bool.not_false, Bool.true_and]
          exact idx_ok s f (pos + 1) (by omega)
      · have hd := decode_high s pos hp (by omega)
        have hd1 : 126 < (Utf8.decode s pos).1 := by have := hd.1; omega
        have h1 : oddr (Utf8.decode s pos).1 = true := by unfold oddr; rw [decide_eq_true hd1]; simp
        have hd2 : 126 < (s[pos]'hp).toNat := by omega
        have h2 : oddr (s[pos]'hp).toNat = true := by unfold oddr; rw [decide_eq_true hd2]; simp
        rw [if_pos h1, h2, Bool.not_true, Bool.false_and, Bool.not_false]
        exact decide_eq_true (by omega)
    · rw [if_neg hp, List.drop_eq_nil_of_le (by rw [Array.length_toList]; show s.size ≤ pos; omega)]
      rfl
theorem idx_all (s : ByteArray) : decide (0 ≤ idxFunc oddr true s) = !(s.data.toList.all okb) := by
  unfold idxFunc
  exact idx_ok s s.size 0 (by omega)
theorem ix0_all : ∀ (l : List UInt8), decide (indexByte l 0 < 0) = l.all (fun b => decide (b.toNat ≠ 0)) := by
  intro l
  rcases split_at 0 l with h | ⟨a, t, rfl, h⟩
  · rw [ix_no l 0 h, decide_eq_true (by omega)]
    symm
    rw [List.all_eq_true]
    intro x hx
    exact decide_eq_true (fun e => h x hx (UInt8.toNat_inj.1 e))
  · rw [ix_at a t 0 h, decide_eq_false (by omega)]
    symm
    rw [List.all_append, List.all_cons]
    simp
end Go.Proofs.YtcbeehchhhoeeaaDoor.P
