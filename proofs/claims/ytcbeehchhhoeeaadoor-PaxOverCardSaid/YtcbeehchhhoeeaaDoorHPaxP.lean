/- pax.Parse of lines is their records; of what begins with none, none. No conditions. -/
import Derived.Test.YtcbeehchhhoeeaaDoorHPaxF
import Derived.Test.YtcbeehchhhoeeaaDoorHPaxPa
namespace Go.Proofs.YtcbeehchhhoeeaaDoor.P
open Go Go.RowKit Go.Lib Go.Proofs Go.Proofs.YtcbeehchhhoeeaaDoorW.PrintWords Go.Proofs.YtcbeehchhhoeeaaDoorW.PrintLast Go.Proofs.YtcbeehchhhoeeaaDoorW.PrintMore
set_option linter.unusedVariables false
set_option linter.unusedSimpArgs false

theorem rec_eq (p : S41) : (⟨tx p.f0.data.toList, tx p.f1.data.toList⟩ : S41) = p := by rw [tx_data, tx_data]
theorem ok_sum (p : S41) (h : (recL p).length ≤ 1048576) : p.f0.data.toList.length + p.f1.data.toList.length ≤ 1048576 := by
  unfold recL lineL at h
  rw [List.length_append, restL_len] at h
  omega
theorem parse_nil (n : Nat) : parseF n (tx []) = some ([], true) := by
  cases n <;> · rw [parseF]; rw [if_pos (tx_toList [])]
theorem parse_cons (p : S41) (n : Nat) (t : List UInt8) (hok : recOk p = true) (hs : (recL p ++ t).length ≤ 1048576) : parseF (n + 1) (tx (recL p ++ t)) = (parseF n (tx t)).map fun z => (p :: z.1, z.2) := by
  have hl : (recL p).length ≤ 1048576 := by rw [List.length_append] at hs; omega
  have hsum := ok_sum p hl
  have hf : firstL (recL p ++ t) = (p.f0.data.toList, p.f1.data.toList, t, true) := first_of _ _ t hok hl (by omega)
  have hne : (tx (recL p ++ t)).toList ≠ ([] : List UInt8) := by
    rw [tx_toList]
    intro e
    have := congrArg List.length e
    rw [List.length_append] at this
    unfold recL lineL at this
    rw [List.length_append, restL_len] at this
    simp at this
  rw [parseF, if_neg hne, first_eq _ hs 40 (Nat.le_refl _), hf, Option.bind_some]
  simp only
  rw [if_pos trivial, rec_eq]
theorem parse_bad (n : Nat) (s : List UInt8) (hs : s.length ≤ 1048576) (hne : s ≠ []) (hb : (firstL s).2.2.2 = false) : parseF (n + 1) (tx s) = some ([], false) := by
  rw [parseF, if_neg (by rw [tx_toList]; exact hne), first_eq _ hs 40 (Nat.le_refl _), Option.bind_some]
  simp only
  rw [if_neg (by rw [hb]; simp)]
theorem parse_lines : ∀ (l : List S41) (n : Nat) (t : List UInt8), l.all recOk = true → (linesL l ++ t).length ≤ 1048576 → parseF (n + l.length) (tx (linesL l ++ t)) = (parseF n (tx t)).map fun z => (l ++ z.1, z.2)
  | [], n, t, _, _ => by
    rw [lines_nil, List.nil_append, List.length_nil, Nat.add_zero]
    simp
  | p :: l, n, t, hok, hs => by
    rw [List.all_cons, Bool.and_eq_true] at hok
    have e : linesL (p :: l) = recL p ++ linesL l := by unfold linesL; rw [List.flatMap_cons]
    rw [e, List.append_assoc] at hs ⊢
    rw [List.length_cons, ← Nat.add_assoc, parse_cons p _ _ hok.1 hs, parse_lines l n t hok.2 (by rw [List.length_append] at hs; omega)]
    cases parseF n (tx t) <;> rfl
theorem parse_total : ∀ (n : Nat) (s : List UInt8), s.length ≤ n → s.length ≤ 1048576 → ∃ z, parseF n (tx s) = some z
  | 0, s, h, _ => by
    obtain rfl := List.eq_nil_of_length_eq_zero (Nat.le_zero.1 h)
    exact ⟨_, parse_nil 0⟩
  | n + 1, s, h, h2 => by
    by_cases hne : s = []
    · subst hne; exact ⟨_, parse_nil _⟩
    · rw [parseF, if_neg (by rw [tx_toList]; exact hne), first_eq _ h2 40 (Nat.le_refl _), Option.bind_some]
      simp only
      cases hb : (firstL s).2.2.2 with
      | false => rw [if_neg (by simp)]; exact ⟨_, rfl⟩
      | true =>
        rw [if_pos rfl]
        obtain ⟨h3, h4⟩ := first_ok s hb
        have h5 := congrArg List.length h4
        rw [List.length_append] at h5
        unfold lineL at h5
        rw [List.length_append, restL_len] at h5
        obtain ⟨z, hz⟩ := parse_total n (firstL s).2.2.1 (by omega) (by omega)
        rw [hz]
        exact ⟨_, rfl⟩
theorem no_first (t : List UInt8) (h : ∀ k v r, okR k v = true → t ≠ lineL k v ++ r) : (firstL t).2.2.2 = false := by
  cases hb : (firstL t).2.2.2 with
  | false => rfl
  | true =>
    obtain ⟨h3, h4⟩ := first_ok t hb
    exact (h _ _ _ h3 h4).elim
theorem nums_bytes (x : ByteArray) : strOfNums (bytesOf x) = x := by
  rw [← tx_data x]
  generalize x.data.toList = l
  unfold strOfNums bytesOf
  rw [data_tx]
  simp only [List.map_map]
  unfold tx
  congr 2
  rw [List.map_congr_left (g := id) (fun b _ => ?_), List.map_id]
  simp
theorem bytes_len (l : List UInt8) : (bytesOf (tx l)).length = l.length := by rw [bytesOf_length, tx_size]
theorem lines_min (l : List S41) : l.length ≤ (linesL l).length := by
  induction l with
  | nil => simp
  | cons p l ih =>
    have e : linesL (p :: l) = recL p ++ linesL l := by unfold linesL; rw [List.flatMap_cons]
    rw [e, List.length_append, List.length_cons]
    have : 1 ≤ (recL p).length := by unfold recL lineL; rw [List.length_append, restL_len]; omega
    omega
theorem Parse_lines (l : List S41) (hok : l.all recOk = true) (hs : (linesL l).length ≤ 1048576) : pax_Parse.f (bytesOf (tx (linesL l))) = some (if 1000 < l.length then ([], 3) else (l, 0)) := by
  have hm := lines_min l
  obtain ⟨n, hn⟩ : ∃ n, (linesL l).length = n + l.length := ⟨(linesL l).length - l.length, by omega⟩
  have hp := parse_lines l n [] hok (by rw [List.append_nil]; exact hs)
  rw [List.append_nil, parse_nil] at hp
  unfold pax_Parse.f
  rw [bytes_len, if_neg (by omega), nums_bytes, hn, hp]
  simp
theorem Parse_bad (l : List S41) (t : List UInt8) (hok : l.all recOk = true) (hs : (linesL l ++ t).length ≤ 1048576) (hne : t ≠ []) (hb : (firstL t).2.2.2 = false) : pax_Parse.f (bytesOf (tx (linesL l ++ t))) = some ([], 34) := by
  have hm := lines_min l
  have ht : 0 < t.length := List.length_pos_iff.2 hne
  rw [List.length_append] at hs
  obtain ⟨n, hn⟩ : ∃ n, (linesL l ++ t).length = (n + 1) + l.length := ⟨(linesL l).length + t.length - l.length - 1, by rw [List.length_append]; omega⟩
  have hp := parse_lines l (n + 1) t hok (by rw [List.length_append]; exact hs)
  rw [parse_bad n t (by omega) hne hb] at hp
  unfold pax_Parse.f
  rw [bytes_len, if_neg (by rw [List.length_append]; omega), nums_bytes, hn, hp]
  simp
/-- A text with a line ahead, in its pieces. -/
theorem line_parts {s k v r : List UInt8} (h : s = lineL k v ++ r) : s = decDigits (lnN k v) ++ 32 :: (k ++ 61 :: (v ++ 10 :: r)) := by rw [h]; unfold lineL restL; simp
/-! ### The chapter's example -/
def aB : S41 := ⟨(⟨#[97]⟩ : ByteArray), (⟨#[98]⟩ : ByteArray)⟩
theorem aB_ok : [aB].all recOk = true := by decide
theorem aB_line : linesL [aB] = [54, 32, 97, 61, 98, 10] := by
  rw [lines_one]
  have h : ld 5 = 1 := by unfold ld fd; rw [nDigits_small (by omega), if_pos rfl]
  have hn : lnN [97] [98] = 6 := by unfold lnN; show 5 + ld 5 = 6; rw [h]
  show lineL [97] [98] = _
  unfold lineL
  rw [hn, decDigits_one (by omega)]
  rfl
theorem bytes_of (l : List UInt8) : bytesOf (tx l) = l.map fun b => (b.toNat : Int) := rfl
theorem known_print : pax_Print.f [aB] = some ([54, 32, 97, 61, 98, 10], 0) := by
  unfold pax_Print.f
  rw [if_pos ⟨by simp, by decide, by rw [aB_line]; decide⟩, if_pos aB_ok, if_neg (by rw [aB_line]; decide), aB_line]
  rfl
theorem known_parse : pax_Parse.f [54, 32, 97, 61, 98, 10] = some ([aB], 0) := by
  have h := Parse_lines [aB] aB_ok (by rw [aB_line]; decide)
  rw [aB_line] at h
  exact h
theorem known_bad : pax_Parse.f [53, 32, 97, 61, 98, 10] = some ([], 34) := by
  refine Parse_bad [] [53, 32, 97, 61, 98, 10] rfl (by decide) (by simp) (no_first _ (fun k v r hok h => ?_))
  have h2 := line_parts h
  have h3 : ([53] : List UInt8) ++ 32 :: [97, 61, 98, 10] = decDigits (lnN k v) ++ 32 :: (k ++ 61 :: (v ++ 10 :: r)) := h2
  obtain ⟨e1, e2⟩ := app_inj 32 _ _ _ _ h3 (by decide) (dig_no32 _ (dd_dig _))
  have e3 : ([97] : List UInt8) ++ 61 :: [98, 10] = k ++ 61 :: (v ++ 10 :: r) := e2
  obtain ⟨e4, e5⟩ := app_inj 61 _ _ _ _ e3 (by decide) (ok_no61 k (okR_key hok))
  have hd := dd_dv (lnN k v)
  rw [← e1] at hd
  have hn : lnN k v = 5 := hd.symm
  have hk := congrArg List.length e4
  have hv := congrArg List.length e5
  simp at hk hv
  have hb := lnN_le k v (by omega)
  have hz : v = [] := List.eq_nil_of_length_eq_zero (by omega)
  rw [hz] at e5
  simp at e5
end Go.Proofs.YtcbeehchhhoeeaaDoor.P
