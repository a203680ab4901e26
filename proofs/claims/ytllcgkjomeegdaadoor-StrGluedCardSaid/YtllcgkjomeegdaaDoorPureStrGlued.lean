/- The pure statement of StrGlued: two texts that are UTF-8 are it together; what is plain is UTF-8; one with a byte ff is none. No conditions. -/
import Derived.Test.YtllcgkjomeegdaaDoorHTexts
import Derived.Test.YtllcgkjomeegdaaDoorPx7
namespace Go.Proofs.YtllcgkjomeegdaaDoor.Pure
open Go Go.RowKit Go.Lib Go.Proofs.YtllcgkjomeegdaaDoor.P Go.Proofs.YtllcgkjomeegdaaDoorW.PrintWords Go.Proofs.YtllcgkjomeegdaaDoorW.PrintLast

theorem byteN_list (s : ByteArray) (i : Nat) (h : i < s.data.toList.length) : byteN s i = (s.data.toList[i]).toNat := by
  unfold byteN
  rw [Utf8W.get!_of_lt s i (by rw [Lib.size_eq]; exact h)]
  rfl
theorem data_glue (s t : ByteArray) : (s ++ t).data.toList = s.data.toList ++ t.data.toList := by rw [ByteArray.data_append, Array.toList_append]
theorem byte_left (s t : ByteArray) (i : Nat) (h : i < s.size) : byteN (s ++ t) i = byteN s i := by
  have hs := Lib.size_eq s
  have ht := Lib.size_eq t
  rw [byteN_list (s ++ t) i (by rw [data_glue, List.length_append]; omega), byteN_list s i (by omega)]
  congr 1
  simp only [data_glue]
  exact List.getElem_append_left (by omega)
theorem byte_right (s t : ByteArray) (i : Nat) (h : i < t.size) : byteN (s ++ t) (s.size + i) = byteN t i := by
  have hs := Lib.size_eq s
  have ht := Lib.size_eq t
  rw [byteN_list (s ++ t) _ (by rw [data_glue, List.length_append]; omega), byteN_list t i (by omega)]
  congr 1
  simp only [data_glue]
  rw [List.getElem_append_right (by omega)]
  congr 1
  omega
/-- A character that lies whole in a text is one in a longer text, too. -/
theorem long_more (n m b0 b1 b2 b3 c1 c2 c3 : Nat) (w : Nat) (h : longN n b0 b1 b2 b3 = w) (hw : w ≠ 0) (hm : n ≤ m) (e1 : 2 ≤ w → c1 = b1) (e2 : 3 ≤ w → c2 = b2) (e3 : 4 ≤ w → c3 = b3) : longN m b0 c1 c2 c3 = w := by
  unfold longN at h ⊢
  by_cases ha : b0 < 128
  · rw [if_pos ha] at h ⊢; exact h
  · rw [if_neg ha] at h ⊢
    by_cases hb : 194 ≤ b0 ∧ b0 ≤ 223 ∧ (1 < n ∧ 128 ≤ b1 ∧ b1 ≤ 191)
    · rw [if_pos hb] at h
      have := e1 (by omega)
      rw [if_pos (by omega)]; exact h
    · rw [if_neg hb] at h
      by_cases hc : 224 ≤ b0 ∧ b0 ≤ 239 ∧ (1 < n ∧ loN b0 ≤ b1 ∧ b1 ≤ hiN b0) ∧ (2 < n ∧ 128 ≤ b2 ∧ b2 ≤ 191)
      · rw [if_pos hc] at h
        have := e1 (by omega)
        have := e2 (by omega)
        rw [if_neg (by omega), if_pos (by omega)]; exact h
      · rw [if_neg hc] at h
        by_cases hd : 240 ≤ b0 ∧ b0 ≤ 244 ∧ (1 < n ∧ loN b0 ≤ b1 ∧ b1 ≤ hiN b0) ∧ (2 < n ∧ 128 ≤ b2 ∧ b2 ≤ 191) ∧ (3 < n ∧ 128 ≤ b3 ∧ b3 ≤ 191)
        · rw [if_pos hd] at h
          have := e1 (by omega)
          have := e2 (by omega)
          have := e3 (by omega)
          rw [if_neg (by omega), if_neg (by omega), if_pos (by omega)]; exact h
        · rw [if_neg hd] at h
          exact absurd h.symm hw
theorem long_size (s : ByteArray) (h : 0 < s.size) : longS s 0 ≤ s.size ∧ longS s 0 ≤ 4 := by
  rcases good_or s 0 h with g | ⟨g1, _⟩
  · have h1 : longS s 0 ≤ s.size - 0 := g.room
    refine ⟨by omega, ?_⟩
    by_cases hb : byteN s 0 < 128
    · have : longS s 0 = 1 := (g.low hb).2
      omega
    · have : longS s 0 ≤ 4 := (g.high (by omega)).2.2.2.2
      exact this
  · omega
theorem extract_app (s t : ByteArray) (w : Nat) (h : w ≤ s.size) : (s ++ t).extract w (s ++ t).size = s.extract w s.size ++ t := by
  have e1 : ((s ++ t).extract w (s ++ t).size).data.toList = (s.extract w s.size ++ t).data.toList := by
    have hs := Lib.size_eq s
    have ht := Lib.size_eq t
    rw [extract_list, data_glue, data_glue, extract_list]
    rw [List.take_of_length_le (by rw [List.length_append, ByteArray.size_append]; omega), List.take_of_length_le (by omega), List.drop_append_of_le_length (by omega)]
  rw [← txt_data ((s ++ t).extract w (s ++ t).size), e1, txt_data]
theorem U_glue (t : ByteArray) (ht : U t = true) : ∀ (n : Nat) (s : ByteArray), s.size = n → U s = true → U (s ++ t) = true
  | 0, s, h, _ => by
    have e : s ++ t = t := by
      have hs := Lib.size_eq s
      have : s.data.toList = [] := List.eq_nil_of_length_eq_zero (by omega)
      rw [← txt_data (s ++ t), ByteArray.data_append, Array.toList_append, this, List.nil_append, txt_data]
    rw [e]; exact ht
  | n + 1, s, h, hu => by
    have hp : 0 < s.size := by omega
    rw [U_step s hp] at hu
    by_cases h0 : longS s 0 = 0
    · rw [if_pos h0] at hu; cases hu
    · rw [if_neg h0] at hu
      obtain ⟨hz, hz4⟩ := long_size s hp
      have e : longS (s ++ t) 0 = longS s 0 := by
        have e0 : byteN (s ++ t) 0 = byteN s 0 := byte_left s t 0 hp
        unfold longS
        rw [e0]
        refine long_more (s.size - 0) ((s ++ t).size - 0) (byteN s 0) (byteN s (0 + 1)) (byteN s (0 + 2)) (byteN s (0 + 3)) _ _ _ (longS s 0) rfl h0 (by rw [ByteArray.size_append]; omega) (fun _ => byte_left s t _ (by omega)) (fun _ => byte_left s t _ (by omega)) (fun _ => byte_left s t _ (by omega))
      rw [U_step (s ++ t) (by rw [ByteArray.size_append]; omega), e, if_neg h0, extract_app s t _ hz]
      exact U_glue t ht (s.size - longS s 0) _ (size_shift s _) hu
termination_by n => n
decreasing_by omega
theorem long_bytes (n b0 b1 b2 b3 : Nat) (h : longN n b0 b1 b2 b3 ≠ 0) : b0 < 245 ∧ (2 ≤ longN n b0 b1 b2 b3 → b1 < 245) ∧ (3 ≤ longN n b0 b1 b2 b3 → b2 < 245) ∧ (4 ≤ longN n b0 b1 b2 b3 → b3 < 245) := by
  have hh : hiN b0 ≤ 191 := by
    unfold hiN
    repeat' split
    all_goals omega
  unfold longN at h ⊢
  by_cases ha : b0 < 128
  · rw [if_pos ha]; omega
  · rw [if_neg ha] at h ⊢
    by_cases hb : 194 ≤ b0 ∧ b0 ≤ 223 ∧ (1 < n ∧ 128 ≤ b1 ∧ b1 ≤ 191)
    · rw [if_pos hb]; omega
    · rw [if_neg hb] at h ⊢
      by_cases hc : 224 ≤ b0 ∧ b0 ≤ 239 ∧ (1 < n ∧ loN b0 ≤ b1 ∧ b1 ≤ hiN b0) ∧ (2 < n ∧ 128 ≤ b2 ∧ b2 ≤ 191)
      · rw [if_pos hc]; omega
      · rw [if_neg hc] at h ⊢
        by_cases hd : 240 ≤ b0 ∧ b0 ≤ 244 ∧ (1 < n ∧ loN b0 ≤ b1 ∧ b1 ≤ hiN b0) ∧ (2 < n ∧ 128 ≤ b2 ∧ b2 ≤ 191) ∧ (3 < n ∧ 128 ≤ b3 ∧ b3 ≤ 191)
        · rw [if_pos hd]; omega
        · rw [if_neg hd] at h; exact absurd rfl h
theorem U_low : ∀ (n : Nat) (s : ByteArray), s.size = n → U s = true → ∀ i, i < s.size → byteN s i < 245
  | 0, s, h, _, i, hi => by omega
  | n + 1, s, h, hu, i, hi => by
    have hp : 0 < s.size := by omega
    rw [U_step s hp] at hu
    by_cases h0 : longS s 0 = 0
    · rw [if_pos h0] at hu; cases hu
    · rw [if_neg h0] at hu
      obtain ⟨hz, hz4⟩ := long_size s hp
      rcases Nat.lt_or_ge i (longS s 0) with hlt | hge
      · have hb : byteN s 0 < 245 ∧ (2 ≤ longS s 0 → byteN s 1 < 245) ∧ (3 ≤ longS s 0 → byteN s 2 < 245) ∧ (4 ≤ longS s 0 → byteN s 3 < 245) := long_bytes _ _ _ _ _ h0
        match i, hlt with
        | 0, _ => exact hb.1
        | 1, _ => exact hb.2.1 (by omega)
        | 2, _ => exact hb.2.2.1 (by omega)
        | 3, _ => exact hb.2.2.2 (by omega)
        | i + 4, hlt => omega
      · have hs := size_shift s (longS s 0)
        have ih := U_low (s.size - longS s 0) (s.extract (longS s 0) s.size) hs hu (i - longS s 0) (by omega)
        rw [byte_shift, show longS s 0 + (i - longS s 0) = i by omega] at ih
        exact ih
termination_by n => n
decreasing_by omega
theorem noCtl_hit (s : ByteArray) (j : Nat) (hj : j < s.size) (hc : ctl (byteN s j) = true) : ∀ (f i : Nat), s.size - i ≤ f → i ≤ j → noCtl s f i = false
  | 0, i, h, hi => by omega
  | f + 1, i, h, hi => by
    simp only [noCtl]
    rw [if_pos (by omega)]
    by_cases h1 : ctl (byteN s i) = true
    · rw [if_pos h1]
    · rw [if_neg h1]
      have : i ≠ j := fun e => h1 (e ▸ hc)
      exact noCtl_hit s j hj hc f (i + 1) (by omega) (by omega)
theorem nl_plain (s : ByteArray) : str_Plain.f (s ++ (⟨#[10]⟩ : ByteArray)) = some false := by
  have hb : byteN (s ++ (⟨#[10]⟩ : ByteArray)) (s.size + 0) = byteN (⟨#[10]⟩ : ByteArray) 0 := byte_right s _ 0 (by decide)
  have hb2 : byteN (⟨#[10]⟩ : ByteArray) 0 = 10 := by decide
  have hz : (⟨#[10]⟩ : ByteArray).size = 1 := rfl
  rw [Plain_eq, noCtl_hit _ (s.size + 0) (by rw [ByteArray.size_append]; omega) (by rw [hb, hb2]; decide) _ 0 (by omega) (by omega)]
  rfl
theorem odd_utf (a b : ByteArray) : U ((a ++ (⟨#[255]⟩ : ByteArray)) ++ b) = false := by
  cases h : U ((a ++ (⟨#[255]⟩ : ByteArray)) ++ b) with
  | false => rfl
  | true =>
    have hz : (⟨#[255]⟩ : ByteArray).size = 1 := rfl
    have h1 := U_low _ _ rfl h (a.size + 0) (by rw [ByteArray.size_append, ByteArray.size_append]; omega)
    rw [byte_left _ _ _ (by rw [ByteArray.size_append]; omega), byte_right a _ 0 (by omega)] at h1
    have hb2 : byteN (⟨#[255]⟩ : ByteArray) 0 = 255 := by decide
    omega
theorem StrGlued : mudlarklaw02_StrGlued.Pure := by
  intro a0 a1 a2 w0 w1 w2
  have r2 := wf_u8 w2
  unfold mudlarklaw02_StrGlued.f
  by_cases h300 : (wrap64 ((a0.size : Int) + (a1.size : Int))) > 300
  · rw [if_pos h300, known_all]
    rfl
  · rw [if_neg h300]
    have h301 : (a0.size : Int) + (a1.size : Int) ≤ 300 := by
      rw [wrap64_id _ (by omega) (by omega)] at h300
      omega
    have e1 : wrap64 ((a0.size : Int) + 1) = (a0.size : Int) + 1 := wrap64_id _ (by omega) (by omega)
    have e2 : wrap64 a2 = a2 := wrap64_id _ (by omega) (by omega)
    rw [e1, e2, if_neg (by omega)]
    obtain ⟨i, hi⟩ : ∃ i, i = Int.tmod a2 ((a0.size : Int) + 1) := ⟨_, rfl⟩
    have hi0 : 0 ≤ i := by rw [hi]; exact Int.tmod_nonneg _ r2.1
    have hi1 : i ≤ (a0.size : Int) := by have := Int.tmod_lt_of_pos a2 (show 0 < (a0.size : Int) + 1 by omega); rw [← hi] at this; omega
    rw [← hi]
    clear hi e1 e2
    obtain ⟨p, rfl⟩ := Int.eq_ofNat_of_zero_le hi0
    rw [Int.toNat_natCast, if_pos hi0, if_pos hi1]
    have z1 : (a0.extract 0 p).size ≤ 300 := by rw [ByteArray.size_extract]; omega
    have z2 : (a0.extract p a0.size).size ≤ 300 := by rw [ByteArray.size_extract]; omega
    obtain ⟨A, hA⟩ : ∃ A, A = a0.extract 0 p := ⟨_, rfl⟩
    obtain ⟨B, hB⟩ : ∃ B, B = a0.extract p a0.size := ⟨_, rfl⟩
    rw [← hA] at z1 ⊢
    rw [← hB] at z2 ⊢
    clear hA hB
    have y1 : A.size + 1 ≤ 9223372036854775807 := by omega
    have z3 : (⟨#[255]⟩ : ByteArray).size = 1 := rfl
    have y2 : (A ++ (⟨#[255]⟩ : ByteArray)).size + B.size ≤ 9223372036854775807 := by rw [ByteArray.size_append, z3]; omega
    have y3 : a0.size + a1.size ≤ 9223372036854775807 := by omega
    have y4 : a0.size + 1 ≤ 9223372036854775807 := by omega
    have hodd : str_Utf8.f ((A ++ (⟨#[255]⟩ : ByteArray)) ++ B) = some false := by rw [Utf8_eq, odd_utf]
    have hnl := nl_plain a0
    have u0 := Utf8_eq a0
    have u1 := Utf8_eq a1
    have u2 := Utf8_eq (a0 ++ a1)
    have pl := Plain_eq a0
    have hT : ((str_Utf8.f ((A ++ (⟨#[255]⟩ : ByteArray)) ++ B)).bind fun t => (if t = true then (some false) else (if a0.size + 1 ≤ 9223372036854775807 then ((str_Plain.f (a0 ++ (⟨#[10]⟩ : ByteArray))).bind fun t => (some (!t))) else (none)))) = some true := by
      rw [hodd, Option.bind_some, if_neg Bool.false_ne_true, if_pos y4, hnl]
      rfl
    have hP : ((str_Plain.f a0).bind fun t => (if t = true then ((str_Utf8.f a0).bind fun t2 => (if t2 = true then ((str_Utf8.f ((A ++ (⟨#[255]⟩ : ByteArray)) ++ B)).bind fun t => (if t = true then (some false) else (if a0.size + 1 ≤ 9223372036854775807 then ((str_Plain.f (a0 ++ (⟨#[10]⟩ : ByteArray))).bind fun t => (some (!t))) else (none)))) else (some false))) else ((str_Utf8.f ((A ++ (⟨#[255]⟩ : ByteArray)) ++ B)).bind fun t => (if t = true then (some false) else (if a0.size + 1 ≤ 9223372036854775807 then ((str_Plain.f (a0 ++ (⟨#[10]⟩ : ByteArray))).bind fun t => (some (!t))) else (none)))))) = some true := by
      rw [hT, pl, Option.bind_some]
      cases hu : U a0 with
      | false => rw [Bool.and_false, if_neg Bool.false_ne_true]
      | true =>
        rw [Bool.and_true]
        split
        · rw [u0, hu, Option.bind_some, if_pos rfl]
        · rfl
    rw [if_pos y1, if_pos y2, known_all, Option.bind_some, if_pos rfl, hP, u0, Option.bind_some]
    cases hu0 : U a0 with
    | false => rw [if_neg Bool.false_ne_true]
    | true =>
      rw [if_pos rfl, u1, Option.bind_some]
      cases hu1 : U a1 with
      | false => rw [if_neg Bool.false_ne_true]
      | true =>
        rw [if_pos rfl, if_pos y3, u2, U_glue a1 hu1 _ a0 rfl hu0, Option.bind_some, if_pos rfl]
end Go.Proofs.YtllcgkjomeegdaaDoor.Pure
