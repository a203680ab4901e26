/- What the reference's Right, Line and Print answer, as lists of bytes. No conditions. -/
import Derived.Test.YtcbeehchhhoeeaaDoorHPaxV
import Derived.Test.YtcbeehchhhoeeaaDoorPx6
namespace Go.Proofs.YtcbeehchhhoeeaaDoor.P
open Go Go.RowKit Go.Lib Go.Proofs Go.Proofs.YtcbeehchhhoeeaaDoorW.PrintWords Go.Proofs.YtcbeehchhhoeeaaDoorW.PrintLast Go.Proofs.YtcbeehchhhoeeaaDoorW.PrintMore
set_option linter.unusedVariables false
set_option linter.unusedSimpArgs false

theorem rr_l1 (k v : List UInt8) (hv : v.length ≤ 1000000000000) : ∀ (m i f : Nat), i + m = v.length → m + 1 ≤ f → mudlarkref03_Right.l1 f (i : Int) (tx k) (tx v) = some ((v.drop i).all (fun b => decide (b.toNat ≠ 0)) && decide (k ≠ []))
  | m, i, 0, h1, h2 => (by omega : False).elim
  | m, i, f + 1, h1, h2 => by
    rw [mudlarkref03_Right.l1, tx_size]
    cases m with
    | zero =>
      rw [if_neg (by omega), tx_size, List.drop_eq_nil_of_le (by omega)]
      cases k with
      | nil => simp
      | cons a t => rw [decide_eq_true (by rw [List.length_cons]; omega), decide_eq_true (by simp)]; rfl
    | succ m =>
      have hi : i < v.length := by omega
      rw [if_pos (by omega), if_pos (by omega), bt_tx v i hi, drop_at hi, List.all_cons, next_i i (by omega)]
      by_cases hz : (v[i]).toNat = 0
      · have e : decide ((v[i]).toNat ≠ 0) = false := decide_eq_false (by simp [hz])
        rw [if_pos (by omega)]
        show some false = some ((decide ((v[i]).toNat ≠ 0) && _) && _)
        rw [e]
        rfl
      · have e : decide ((v[i]).toNat ≠ 0) = true := decide_eq_true hz
        rw [if_neg (by omega), rr_l1 k v hv m (i + 1) f (by omega) (by omega)]
        show some ((List.drop (i + 1) v).all _ && _) = some ((decide ((v[i]).toNat ≠ 0) && _) && _)
        rw [e, Bool.true_and]
theorem rr_l0 (k v : List UInt8) (hk : k.length ≤ 1000000000000) (hv : v.length ≤ 1000000000000) : ∀ (m i f : Nat), i + m = k.length → m + v.length + 2 ≤ f → mudlarkref03_Right.l0 f (i : Int) (tx k) (tx v) = some ((k.drop i).all okb && (v.all (fun b => decide (b.toNat ≠ 0)) && decide (k ≠ [])))
  | m, i, 0, h1, h2 => (by omega : False).elim
  | m, i, f + 1, h1, h2 => by
    rw [mudlarkref03_Right.l0, tx_size]
    cases m with
    | zero =>
      have h := rr_l1 k v hv v.length 0 f (by omega) (by omega)
      rw [show ((0 : Nat) : Int) = 0 from rfl, List.drop_zero] at h
      rw [if_neg (by omega), List.drop_eq_nil_of_le (by omega), h]
      rfl
    | succ m =>
      have hi : i < k.length := by omega
      rw [if_pos (by omega), if_pos (by omega), bt_tx k i hi, drop_at hi, List.all_cons, next_i i (by omega)]
      by_cases h1 : (k[i]).toNat < 33
      · have e : okb k[i] = false := by unfold okb; rw [decide_eq_false (show ¬ 33 ≤ (k[i]).toNat by omega)]; rfl
        rw [if_pos (by omega), e]
        rfl
      · by_cases h2 : 126 < (k[i]).toNat
        · have e : okb k[i] = false := by unfold okb; rw [decide_eq_false (show ¬ (k[i]).toNat ≤ 126 by omega)]; simp
          rw [if_neg (by omega), if_pos (by omega), e]
          rfl
        · by_cases h3 : (k[i]).toNat = 61
          · have e : okb k[i] = false := by unfold okb; rw [decide_eq_false (show ¬ (k[i]).toNat ≠ 61 by omega)]; simp
            rw [if_neg (by omega), if_neg (by omega), if_pos (by omega), e]
            rfl
          · have e : okb k[i] = true := by unfold okb; rw [decide_eq_true (show 33 ≤ (k[i]).toNat by omega), decide_eq_true (show (k[i]).toNat ≤ 126 by omega), decide_eq_true h3]; rfl
            rw [if_neg (by omega), if_neg (by omega), if_neg (by omega), e, Bool.true_and]
            exact rr_l0 k v hk hv m (i + 1) f (by omega) (by omega)
theorem RRight_eq (k v : List UInt8) (f : Nat) (h : k.length + v.length ≤ 1000000000000) (hf : k.length + v.length + 2 ≤ f) : mudlarkref03_Right.f f (tx k) (tx v) = some (okR k v) := by
  unfold mudlarkref03_Right.f okR
  have := rr_l0 k v (by omega) (by omega) k.length 0 f (by omega) hf
  rw [List.drop_zero] at this
  exact this
theorem RRight_rec (p : S41) (f : Nat) (h : p.f0.data.toList.length + p.f1.data.toList.length ≤ 1000000000000) (hf : p.f0.data.toList.length + p.f1.data.toList.length + 2 ≤ f) : mudlarkref03_Right.f f p.f0 p.f1 = some (recOk p) := by
  have := RRight_eq p.f0.data.toList p.f1.data.toList f h hf
  rw [tx_data, tx_data] at this
  exact this
theorem rl_l0 (L : Nat) (h : L ≤ 1000000000000000) (x : List UInt8) (hx : x.length = L) : ∀ (m d f : Nat), d + m = ld L → 1 ≤ d → m + 1 ≤ f → mudlarkref03_Line.l0 f (tx x) (d : Int) = some (tx (decDigits (L + ld L) ++ x))
  | m, d, 0, h1, h2, h3 => (by omega : False).elim
  | m, d, f + 1, h1, h2, h3 => by
    have hs := ld_spec L h
    rw [mudlarkref03_Line.l0, if_pos (by omega), tx_size, hx, wrap64_id _ (by omega) (by omega), show ((L : Int) + (d : Int)) = ((L + d : Nat) : Int) by omega, itoa_nat _ (by omega), Option.bind_some, tx_size, decDigits_length]
    by_cases he : nDigits (L + d) = d
    · have hd : d = ld L := by
        rcases Nat.lt_or_ge d (ld L) with hl | hl
        · exact (hs.2.1 d h2 hl he).elim
        · omega
      rw [if_pos (by omega), if_pos (by omega), tx_app, ← hd]
    · have hm : m ≠ 0 := fun e => he (by have : d = ld L := by omega
                                         rw [this]; exact hs.1)
      rw [if_neg (by omega), next_i d (by omega)]
      exact rl_l0 L h x hx (m - 1) (d + 1) f (by omega) (by omega) (by omega)
theorem RLine_eq (k v : ByteArray) (h : k.size + v.size ≤ 1000000000000) (n : Nat) (hn : 20 ≤ n) : mudlarkref03_Line.f n k v = some (tx (lineL k.data.toList v.data.toList)) := by
  have s32 : (⟨#[32]⟩ : ByteArray).size = 1 := rfl
  have s61 : (⟨#[61]⟩ : ByteArray).size = 1 := rfl
  have s10 : (⟨#[10]⟩ : ByteArray).size = 1 := rfl
  have hk := size_len k
  have hv := size_len v
  have hr := restL_len k.data.toList v.data.toList
  have hd := ld_spec (k.data.toList.length + v.data.toList.length + 3) (by omega)
  unfold mudlarkref03_Line.f
  rw [if_pos (by omega), if_pos (by simp only [ByteArray.size_append]; omega), if_pos (by simp only [ByteArray.size_append]; omega), if_pos (by simp only [ByteArray.size_append]; omega), rest_tx]
  have h0 := rl_l0 _ (by omega) (restL k.data.toList v.data.toList) hr (ld (k.data.toList.length + v.data.toList.length + 3) - 1) 1 n (by omega) (by omega) (by omega)
  rw [show ((1 : Nat) : Int) = 1 from rfl] at h0
  rw [h0]
  rfl
theorem RLine_rec (p : S41) (f : Nat) (h : p.f0.data.toList.length + p.f1.data.toList.length ≤ 1000000000000) (hf : 20 ≤ f) : mudlarkref03_Line.f f p.f0 p.f1 = some (tx (recL p)) :=
  RLine_eq p.f0 p.f1 (by rw [size_len, size_len]; exact h) f hf
/-! ### Print -/
def printV (l : List S41) : List Int × Int := if l.all recOk = true then (if 1000 < l.length ∨ 1048576 < (linesL l).length then ([], 3) else (bytesOf (tx (linesL l)), 0)) else ([], 34)
def Sized (B : Nat) (l : List S41) : Prop := ∀ p ∈ l, p.f0.data.toList.length + p.f1.data.toList.length ≤ B
theorem sized_lines (B : Nat) (hB : B ≤ 10000000) : ∀ (l : List S41), Sized B l → (linesL l).length ≤ l.length * (B + 19) ∧ l.all recS = true
  | [], _ => by simp [linesL]
  | p :: l, h => by
    obtain ⟨h1, h2⟩ := sized_lines B hB l (fun q hq => h q (by simp [hq]))
    have hp := h p (by simp)
    have hs : recS p = true := decide_eq_true (by rw [size_len, size_len]; omega)
    have e : linesL (p :: l) = recL p ++ linesL l := by unfold linesL; rw [List.flatMap_cons]
    have hl := recL_len p hs
    have := lnN_le p.f0.data.toList p.f1.data.toList (by omega)
    rw [e, List.length_append, List.length_cons, List.all_cons, hs, h2]
    exact ⟨by rw [Nat.succ_mul]; omega, rfl⟩
theorem Print_sized (B : Nat) (hB : B ≤ 10000000) (l : List S41) (h : Sized B l) (hl : l.length ≤ 1000000) : pax_Print.f l = some (printV l) := by
  obtain ⟨h1, h2⟩ := sized_lines B hB l h
  have h3 : l.length * (B + 19) ≤ 1000000 * 10000019 := Nat.mul_le_mul hl (by omega)
  unfold pax_Print.f printV
  rw [if_pos ⟨by omega, h2, by omega⟩]
theorem bytes_app (a b : List UInt8) : bytesOf (tx a) ++ bytesOf (tx b) = bytesOf (tx (a ++ b)) := by rw [bytes_of, bytes_of, bytes_of, List.map_append]
theorem rp_l1 (B : Nat) (hB : B ≤ 10000000) (l : List S41) (h : Sized B l) (hl : l.length ≤ 1000000) : ∀ (m i f : Nat), i + m = l.length → m + 21 ≤ f → mudlarkref03_Print.l1 f l (bytesOf (tx (linesL (l.take i)))) (i : Int) = some (bytesOf (tx (linesL l)), 0)
  | m, i, 0, h1, h2 => (by omega : False).elim
  | m, i, f + 1, h1, h2 => by
    rw [mudlarkref03_Print.l1]
    cases m with
    | zero => rw [if_neg (by omega), List.take_of_length_le (by omega)]
    | succ m =>
      have hi : i < l.length := by omega
      have hp := h _ (rd_mem l i hi)
      have hle := lines_le l (i + 1)
      have h3 : l.length * (B + 19) ≤ 1000000 * 10000019 := Nat.mul_le_mul hl (by omega)
      have h4 := (sized_lines B hB l h).1
      have ht := lines_take l i hi
      rw [ht, List.length_append] at hle
      rw [if_pos (by omega), if_pos (by omega), RLine_rec _ f (by omega) (by omega), Option.bind_some, bytes_len, tx_size, if_pos (by omega), next_i i (by omega), bytes_app, ← ht]
      exact rp_l1 B hB l h hl m (i + 1) f (by omega) (by omega)
theorem rp_l0 (B : Nat) (hB : B ≤ 10000000) (l : List S41) (h : Sized B l) (hl : l.length ≤ 1000000) : ∀ (m i f : Nat), i + m = l.length → m + l.length + B + 40 ≤ f → (l.take i).all recOk = true → mudlarkref03_Print.l0 f l ((linesL (l.take i)).length : Int) (i : Int) = some (printV l)
  | m, i, 0, h1, h2, h3 => (by omega : False).elim
  | m, i, f + 1, h1, h2, h3 => by
    rw [mudlarkref03_Print.l0]
    have hle := lines_le l i
    have h5 : l.length * (B + 19) ≤ 1000000 * 10000019 := Nat.mul_le_mul hl (by omega)
    have h4 := (sized_lines B hB l h).1
    cases m with
    | zero =>
      rw [List.take_of_length_le (by omega)] at h3 ⊢
      unfold printV
      obtain ⟨f, rfl⟩ : ∃ q, f = q + 1 := ⟨f - 1, by omega⟩
      rw [if_neg (by omega), if_pos h3]
      by_cases c : 1000 < l.length
      · rw [if_pos (by omega), mudlarkref03_Print.j1, if_pos rfl, if_pos (.inl c)]
      · rw [if_neg (by omega), mudlarkref03_Print.j1]
        by_cases c2 : 1048576 < (linesL l).length
        · rw [decide_eq_true (by omega), if_pos rfl, if_pos (.inr c2)]
        · rw [decide_eq_false (by omega), if_neg (by simp), if_neg (by omega)]
          exact rp_l1 B hB l h hl l.length 0 f (by omega) (by omega)
    | succ m =>
      have hi : i < l.length := by omega
      have hp := h _ (rd_mem l i hi)
      have hle1 := lines_le l (i + 1)
      have ht := lines_take l i hi
      rw [ht, List.length_append] at hle1
      rw [if_pos (by omega), if_pos (by omega), RRight_rec _ f (by omega) (by omega), Option.bind_some]
      cases hok : recOk (rd_T41 l (i : Int)) with
      | false =>
        have hn : ¬ l.all recOk = true := by
          intro e
          have := List.all_eq_true.1 e _ (rd_mem l i hi)
          rw [hok] at this
          cases this
        unfold printV
        rw [if_neg (by simp), if_neg hn]
      | true =>
        rw [if_pos rfl, RLine_rec _ f (by omega) (by omega), Option.bind_some, tx_size, wrap64_id _ (by omega) (by omega), next_i i (by omega), show ((linesL (l.take i)).length : Int) + ((recL (rd_T41 l (i : Int))).length : Int) = ((linesL (l.take (i + 1))).length : Int) by rw [ht, List.length_append]; omega]
        refine rp_l0 B hB l h hl m (i + 1) f (by omega) (by omega) ?_
        rw [take_rd l i hi, List.all_append, h3, List.all_cons, hok]
        rfl
theorem RPrint_eq (B : Nat) (hB : B ≤ 10000000) (l : List S41) (h : Sized B l) (hl : l.length ≤ 1000000) (f : Nat) (hf : 2 * l.length + B + 40 ≤ f) : mudlarkref03_Print.f f l = some (printV l) :=
  rp_l0 B hB l h hl l.length 0 f (by omega) (by omega) rfl
end Go.Proofs.YtcbeehchhhoeeaaDoor.P
