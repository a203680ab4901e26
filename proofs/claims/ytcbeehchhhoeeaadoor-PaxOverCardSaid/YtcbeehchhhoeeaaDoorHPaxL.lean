/- pax.line of a record is its line; what all lines of records are. No conditions. -/
import Derived.Test.YtcbeehchhhoeeaaDoorPx2
import Derived.Test.YtcbeehchhhoeeaaDoorHPaxT
namespace Go.Proofs.YtcbeehchhhoeeaaDoor.P
open Go Go.RowKit Go.Lib Go.Proofs Go.Proofs.YtcbeehchhhoeeaaDoorW.PrintWords Go.Proofs.YtcbeehchhhoeeaaDoorW.PrintLast Go.Proofs.YtcbeehchhhoeeaaDoorW.PrintMore
set_option linter.unusedVariables false
set_option linter.unusedSimpArgs false

theorem wrap64_id (x : Int) (h0 : -9223372036854775808 ≤ x) (h1 : x ≤ 9223372036854775807) : wrap64 x = x := by
  unfold wrap64; omega
theorem next_i (i : Nat) (h : i < 9223372036854775807) : wrap64 ((i : Int) + 1) = ((i + 1 : Nat) : Int) := by rw [wrap64_id _ (by omega) (by omega)]; push_cast; rfl
theorem tx_data (x : ByteArray) : tx x.data.toList = x := by cases x; rfl
theorem data_tx (l : List UInt8) : (tx l).data.toList = l := rfl
theorem tx_size (l : List UInt8) : (tx l).size = l.length := List.size_toArray
theorem tx_app (a b : List UInt8) : tx a ++ tx b = tx (a ++ b) := by
  rw [← tx_data (tx a ++ tx b), ByteArray.data_append, Array.toList_append]
  rfl
theorem tx_cut (l : List UInt8) (a b : Nat) : (tx l).extract a b = tx ((l.take b).drop a) := by
  rw [← tx_data ((tx l).extract a b), ByteArray.data_extract, Array.toList_extract]
  simp [List.extract_eq_take_drop, List.drop_take, tx]
theorem tx_toList (l : List UInt8) : (tx l).toList = l := by rw [Lib.toList_data]; rfl
theorem size_len (x : ByteArray) : x.size = x.data.toList.length := by rw [Array.length_toList]; rfl
theorem bt_tx (l : List UInt8) (i : Nat) (h : i < l.length) : bt (tx l) (i : Int) = ((l[i]).toNat : Int) := by
  unfold bt
  rw [dif_pos (show (i : Int).toNat < (tx l).size by rw [Int.toNat_natCast, tx_size]; exact h)]
  rfl
theorem itoa_nat (n : Nat) (h : n ≤ 9223372036854775807) : strconv_Itoa_42.f (n : Int) = some (tx (decDigits n)) := by
  unfold strconv_Itoa_42.f
  rw [if_pos ⟨by omega, by omega⟩, itoa_nonneg]
theorem rest_tx (k v : ByteArray) : ((((⟨#[32]⟩ : ByteArray) ++ k) ++ (⟨#[61]⟩ : ByteArray)) ++ v) ++ (⟨#[10]⟩ : ByteArray) = tx (restL k.data.toList v.data.toList) := by
  rw [← tx_data (_ ++ (⟨#[10]⟩ : ByteArray))]
  simp only [ByteArray.data_append, Array.toList_append]
  unfold restL
  simp
theorem l0_eq (L : Nat) (h : L ≤ 1000000000000000) (x : List UInt8) (hx : x.length = L) : ∀ (f e : Nat), 1 ≤ e → e ≤ ld L → e ≤ nDigits (L + e) → ld L < e + f → pax_line.l0 f (tx x) ((L + e : Nat) : Int) = some (tx (decDigits (L + ld L) ++ x))
  | 0, e, h1, h2, h3, h4 => by omega
  | f + 1, e, h1, h2, h3, h4 => by
    have hs := ld_spec L h
    obtain ⟨a, b, c⟩ := ld_step L e h h1 h2 h3
    unfold pax_line.l0
    rw [itoa_nat _ (by omega), Option.bind_some, tx_size, tx_size, hx, decDigits_length, wrap64_id _ (by omega) (by omega)]
    by_cases he : nDigits (L + e) = e
    · rw [if_pos (by rw [he]; omega), Option.bind_some, if_pos (by rw [tx_size, decDigits_length]; omega), tx_app, ← c he]
    · rw [if_neg (by omega), Option.bind_some, tx_size, decDigits_length, wrap64_id _ (by omega) (by omega)]
      rw [show ((nDigits (L + e) : Int) + (L : Int)) = ((L + nDigits (L + e) : Nat) : Int) by omega]
      exact l0_eq L h x hx f _ (by omega) a b (by omega)
theorem line_eq (k v : ByteArray) (h : k.size + v.size ≤ 1000000000000) (n : Nat) (hn : 20 ≤ n) : pax_line.f n k v = some (tx (lineL k.data.toList v.data.toList)) := by
  have s32 : (⟨#[32]⟩ : ByteArray).size = 1 := rfl
  have s61 : (⟨#[61]⟩ : ByteArray).size = 1 := rfl
  have s10 : (⟨#[10]⟩ : ByteArray).size = 1 := rfl
  have hk := size_len k
  have hv := size_len v
  have hr := restL_len k.data.toList v.data.toList
  have hd := ld_spec (k.data.toList.length + v.data.toList.length + 3) (by omega)
  have hp := nDigits_pos (k.data.toList.length + v.data.toList.length + 3 + 1)
  unfold pax_line.f
  rw [if_pos (by omega), if_pos (by simp only [ByteArray.size_append]; omega), if_pos (by simp only [ByteArray.size_append]; omega), if_pos (by simp only [ByteArray.size_append]; omega), rest_tx, tx_size, hr, wrap64_id _ (by omega) (by omega)]
  have h0 := l0_eq _ (by omega) (restL k.data.toList v.data.toList) hr n 1 (Nat.le_refl _) hd.2.2.1 hp (by omega)
  rw [show ((k.data.toList.length + v.data.toList.length + 3 : Nat) : Int) + 1 = ((k.data.toList.length + v.data.toList.length + 3 + 1 : Nat) : Int) by omega, h0]
  rfl
/-! ### Records -/
def recL (p : S41) : List UInt8 := lineL p.f0.data.toList p.f1.data.toList
def recOk (p : S41) : Bool := okR p.f0.data.toList p.f1.data.toList
def recS (p : S41) : Bool := decide (p.f0.size + p.f1.size ≤ 1000000000000)
def linesL (l : List S41) : List UInt8 := l.flatMap recL
theorem lines_nil : linesL [] = [] := rfl
theorem lines_app (a b : List S41) : linesL (a ++ b) = linesL a ++ linesL b := by unfold linesL; rw [List.flatMap_append]
theorem lines_one (p : S41) : linesL [p] = recL p := by unfold linesL; simp
theorem take_rd (l : List S41) (i : Nat) (h : i < l.length) : l.take (i + 1) = l.take i ++ [rd_T41 l (i : Int)] := by
  rw [List.take_succ_eq_append_getElem h]
  unfold rd_T41
  simp [List.getD, h]
theorem lines_take (l : List S41) (i : Nat) (h : i < l.length) : linesL (l.take (i + 1)) = linesL (l.take i) ++ recL (rd_T41 l (i : Int)) := by
  rw [take_rd l i h, lines_app, lines_one]
theorem lines_le (l : List S41) (i : Nat) : (linesL (l.take i)).length ≤ (linesL l).length := by
  have h := congrArg List.length (lines_app (l.take i) (l.drop i))
  rw [List.take_append_drop, List.length_append] at h
  omega
theorem rd_mem (l : List S41) (i : Nat) (h : i < l.length) : rd_T41 l (i : Int) ∈ l := by
  unfold rd_T41
  rw [Int.toNat_natCast]
  simp [List.getD, h]
theorem recL_len (p : S41) (h : recS p = true) : (recL p).length = lnN p.f0.data.toList p.f1.data.toList := by
  unfold recL
  have := of_decide_eq_true h
  rw [size_len, size_len] at this
  exact lineL_len _ _ (by omega)
def pax_Print.f (l : List S41) : Option (List Int × Int) :=
  if l.length ≤ 1000000000000 ∧ l.all recS = true ∧ (linesL l).length ≤ 100000000000000 then
    some (if l.all recOk = true then (if 1000 < l.length ∨ 1048576 < (linesL l).length then ([], 3) else (bytesOf (tx (linesL l)), 0)) else ([], 34))
  else none
end Go.Proofs.YtcbeehchhhoeeaaDoor.P
