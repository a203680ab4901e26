/- The chapter's own Utf8 and Plain come to the same as the program's. No conditions. -/
import Derived.Test.YtllcgkjomeegdaaDoorHPathRef
import Derived.Test.YtllcgkjomeegdaaDoorPx5
import Derived.Lib.DecodeNEq
namespace Go.Proofs.YtllcgkjomeegdaaDoor.P
open Go Go.RowKit Go.Shelf Go.Lib Go.Proofs.YtllcgkjomeegdaaDoorW.PrintWords Go.Proofs.YtllcgkjomeegdaaDoorW.PrintLast Go.Proofs.YtllcgkjomeegdaaDoorW.PrintMore
set_option linter.unusedVariables false
set_option linter.unusedSimpArgs false

/-- How many bytes a character at the begin has, as the chapter reckons. -/
def loN (b0 : Nat) : Nat := if b0 = 224 then 160 else if b0 = 240 then 144 else 128
def hiN (b0 : Nat) : Nat := if b0 = 237 then 159 else if b0 = 244 then 143 else 191
def longN (n b0 b1 b2 b3 : Nat) : Nat :=
  if b0 < 128 then 1
  else if 194 ≤ b0 ∧ b0 ≤ 223 ∧ (1 < n ∧ 128 ≤ b1 ∧ b1 ≤ 191) then 2
  else if 224 ≤ b0 ∧ b0 ≤ 239 ∧ (1 < n ∧ loN b0 ≤ b1 ∧ b1 ≤ hiN b0) ∧ (2 < n ∧ 128 ≤ b2 ∧ b2 ≤ 191) then 3
  else if 240 ≤ b0 ∧ b0 ≤ 244 ∧ (1 < n ∧ loN b0 ≤ b1 ∧ b1 ≤ hiN b0) ∧ (2 < n ∧ 128 ≤ b2 ∧ b2 ≤ 191) ∧ (3 < n ∧ 128 ≤ b3 ∧ b3 ≤ 191) then 4
  else 0
/-- A character that is one. -/
structure GoodN (n b0 b1 b2 b3 : Nat) : Prop where
  wide : (decodeN n b0 b1 b2 b3).2 = longN n b0 b1 b2 b3
  some : longN n b0 b1 b2 b3 ≠ 0
  room : longN n b0 b1 b2 b3 ≤ n
  good : ¬ ((decodeN n b0 b1 b2 b3).1 = 65533 ∧ (decodeN n b0 b1 b2 b3).2 = 1)
  low : b0 < 128 → (decodeN n b0 b1 b2 b3).1 = b0 ∧ longN n b0 b1 b2 b3 = 1
  high : 128 ≤ b0 → 128 ≤ (decodeN n b0 b1 b2 b3).1 ∧ (2 ≤ longN n b0 b1 b2 b3 → 128 ≤ b1) ∧ (3 ≤ longN n b0 b1 b2 b3 → 128 ≤ b2) ∧ (4 ≤ longN n b0 b1 b2 b3 → 128 ≤ b3) ∧ longN n b0 b1 b2 b3 ≤ 4
def GoodC (n b1 b2 b3 sz lo hi : Nat) : Prop := sz ≤ n ∧ lo ≤ b1 ∧ b1 ≤ hi ∧ (3 ≤ sz → 128 ≤ b2 ∧ b2 ≤ 191) ∧ (4 ≤ sz → 128 ≤ b3 ∧ b3 ≤ 191)
theorem slow_bad (n b0 b1 b2 b3 sz lo hi : Nat) (hz : 2 ≤ sz ∧ sz ≤ 4) (h : ¬ GoodC n b1 b2 b3 sz lo hi) : slowN n b0 b1 b2 b3 sz lo hi = (65533, 1) := by
  unfold GoodC at h
  unfold slowN
  repeat' split
  all_goals first | rfl | (exfalso; exact h ⟨by omega, by omega, by omega, fun _ => by omega, fun _ => by omega⟩)
theorem slow_good (n b0 b1 b2 b3 sz lo hi : Nat) (hz : 2 ≤ sz ∧ sz ≤ 4) (h : GoodC n b1 b2 b3 sz lo hi) :
    slowN n b0 b1 b2 b3 sz lo hi = (if sz ≤ 2 then b0 % 32 * 64 + b1 % 64 else if sz ≤ 3 then b0 % 16 * 4096 + b1 % 64 * 64 + b2 % 64 else b0 % 8 * 262144 + b1 % 64 * 4096 + b2 % 64 * 64 + b3 % 64, sz) := by
  obtain ⟨g1, g2, g3, g4, g5⟩ := h
  unfold slowN
  rw [if_neg (by omega), if_neg (by omega)]
  by_cases h2 : sz ≤ 2
  · rw [if_pos h2, if_pos h2, show sz = 2 by omega]
  · have := g4 (by omega)
    rw [if_neg h2, if_neg h2, if_neg (by omega)]
    by_cases h3 : sz ≤ 3
    · rw [if_pos h3, if_pos h3, show sz = 3 by omega]
    · have := g5 (by omega)
      rw [if_neg h3, if_neg h3, if_neg (by omega), show sz = 4 by omega]
theorem cls (n b0 b1 b2 b3 sz lo hi : Nat) (hd : slowN n b0 b1 b2 b3 sz lo hi = decodeN n b0 b1 b2 b3) (hb : 128 ≤ b0) (hlo : 128 ≤ lo) (hz : 2 ≤ sz ∧ sz ≤ 4)
    (hl1 : GoodC n b1 b2 b3 sz lo hi → longN n b0 b1 b2 b3 = sz) (hl0 : ¬ GoodC n b1 b2 b3 sz lo hi → longN n b0 b1 b2 b3 = 0)
    (hv : GoodC n b1 b2 b3 sz lo hi → 128 ≤ (if sz ≤ 2 then b0 % 32 * 64 + b1 % 64 else if sz ≤ 3 then b0 % 16 * 4096 + b1 % 64 * 64 + b2 % 64 else b0 % 8 * 262144 + b1 % 64 * 4096 + b2 % 64 * 64 + b3 % 64)) :
    GoodN n b0 b1 b2 b3 ∨ (longN n b0 b1 b2 b3 = 0 ∧ decodeN n b0 b1 b2 b3 = (65533, 1)) := by
  by_cases h : GoodC n b1 b2 b3 sz lo hi
  · have e1 := hl1 h
    have e2 := slow_good n b0 b1 b2 b3 sz lo hi hz h
    rw [hd] at e2
    have hv := hv h
    obtain ⟨g1, g2, g3, g4, g5⟩ := h
    refine .inl ⟨by rw [e2, e1], by omega, by omega, fun hh => ?_, fun hh => by omega, fun _ => ⟨by rw [e2]; exact hv, fun _ => by omega, fun hh => ?_, fun hh => ?_, by omega⟩⟩
    · have := hh.2
      rw [e2] at this
      simp only at this
      omega
    · have := g4 (by omega); omega
    · have := g5 (by omega); omega
  · exact .inr ⟨hl0 h, by rw [← hd]; exact slow_bad n b0 b1 b2 b3 sz lo hi hz h⟩
theorem long_2 (n b0 b1 b2 b3 : Nat) (hb : 194 ≤ b0 ∧ b0 < 224) : (GoodC n b1 b2 b3 2 128 191 → longN n b0 b1 b2 b3 = 2) ∧ (¬ GoodC n b1 b2 b3 2 128 191 → longN n b0 b1 b2 b3 = 0) := by
  unfold longN
  rw [if_neg (by omega)]
  refine ⟨fun ⟨g1, g2, g3, _, _⟩ => if_pos (by omega), fun h => ?_⟩
  rw [if_neg (fun hh => h ⟨by omega, by omega, by omega, fun h3 => by omega, fun h4 => by omega⟩), if_neg (by omega), if_neg (by omega)]
theorem long_3 (n b0 b1 b2 b3 lo hi : Nat) (hb : 224 ≤ b0 ∧ b0 < 240) (hlo : loN b0 = lo) (hhi : hiN b0 = hi) : (GoodC n b1 b2 b3 3 lo hi → longN n b0 b1 b2 b3 = 3) ∧ (¬ GoodC n b1 b2 b3 3 lo hi → longN n b0 b1 b2 b3 = 0) := by
  unfold longN
  rw [hlo, hhi, if_neg (by omega), if_neg (by omega)]
  refine ⟨fun ⟨g1, g2, g3, g4, _⟩ => if_pos (by have := g4 (by omega); omega), fun h => ?_⟩
  rw [if_neg (fun hh => h ⟨by omega, by omega, by omega, fun h3 => by omega, fun h4 => by omega⟩), if_neg (by omega)]
theorem long_4 (n b0 b1 b2 b3 lo hi : Nat) (hb : 240 ≤ b0 ∧ b0 < 245) (hlo : loN b0 = lo) (hhi : hiN b0 = hi) : (GoodC n b1 b2 b3 4 lo hi → longN n b0 b1 b2 b3 = 4) ∧ (¬ GoodC n b1 b2 b3 4 lo hi → longN n b0 b1 b2 b3 = 0) := by
  unfold longN
  rw [hlo, hhi, if_neg (by omega), if_neg (by omega), if_neg (by omega)]
  refine ⟨fun ⟨g1, g2, g3, g4, g5⟩ => if_pos (by have := g4 (by omega); have := g5 (by omega); omega), fun h => ?_⟩
  rw [if_neg (fun hh => h ⟨by omega, by omega, by omega, fun h3 => by omega, fun h4 => by omega⟩)]
theorem long_dec (n b0 b1 b2 b3 : Nat) (hn : 1 ≤ n) (h0 : b0 < 256) (h1 : b1 < 256) (h2 : b2 < 256) (h3 : b3 < 256) :
    GoodN n b0 b1 b2 b3 ∨ (longN n b0 b1 b2 b3 = 0 ∧ decodeN n b0 b1 b2 b3 = (65533, 1)) := by
  by_cases ha : b0 < 128
  · have e1 : longN n b0 b1 b2 b3 = 1 := by unfold longN; rw [if_pos ha]
    have e2 : decodeN n b0 b1 b2 b3 = (b0, 1) := by unfold decodeN; rw [if_pos ha]
    exact .inl ⟨by rw [e1, e2], by omega, by omega, fun hh => by rw [e2] at hh; have := hh.1; simp only at this; omega, fun _ => ⟨by rw [e2], e1⟩, fun hh => by omega⟩
  · by_cases hx : firstT b0 < 240
    · rcases firstT_low hx with h | h | h | h | h | h | h
      · exact cls n b0 b1 b2 b3 2 128 191 (slow_C2 n b0 b1 b2 b3 hn h1 h2 h3 h) (by omega) (by omega) (by omega) (long_2 n b0 b1 b2 b3 h).1 (long_2 n b0 b1 b2 b3 h).2 (fun g => by rw [if_pos (by omega)]; omega)
      · have := long_3 n b0 b1 b2 b3 160 191 (by omega) (by subst h; rfl) (by subst h; rfl)
        exact cls n b0 b1 b2 b3 3 160 191 (slow_E0 n b0 b1 b2 b3 hn h1 h2 h3 h) (by omega) (by omega) (by omega) this.1 this.2 (fun g => by rw [if_neg (by omega), if_pos (by omega)]; have := g.2.1; have := g.2.2.1; omega)
      · have := long_3 n b0 b1 b2 b3 128 191 (by omega) (by unfold loN; rw [if_neg (by omega), if_neg (by omega)]) (by unfold hiN; rw [if_neg (by omega), if_neg (by omega)])
        exact cls n b0 b1 b2 b3 3 128 191 (slow_E1 n b0 b1 b2 b3 hn h1 h2 h3 h) (by omega) (by omega) (by omega) this.1 this.2 (fun g => by rw [if_neg (by omega), if_pos (by omega)]; omega)
      · have := long_3 n b0 b1 b2 b3 128 159 (by omega) (by subst h; rfl) (by subst h; rfl)
        exact cls n b0 b1 b2 b3 3 128 159 (slow_ED n b0 b1 b2 b3 hn h1 h2 h3 h) (by omega) (by omega) (by omega) this.1 this.2 (fun g => by rw [if_neg (by omega), if_pos (by omega)]; omega)
      · have := long_4 n b0 b1 b2 b3 144 191 (by omega) (by subst h; rfl) (by subst h; rfl)
        exact cls n b0 b1 b2 b3 4 144 191 (slow_F0 n b0 b1 b2 b3 hn h1 h2 h3 h) (by omega) (by omega) (by omega) this.1 this.2 (fun g => by rw [if_neg (by omega), if_neg (by omega)]; have := g.2.1; have := g.2.2.1; omega)
      · have := long_4 n b0 b1 b2 b3 128 191 (by omega) (by unfold loN; rw [if_neg (by omega), if_neg (by omega)]) (by unfold hiN; rw [if_neg (by omega), if_neg (by omega)])
        exact cls n b0 b1 b2 b3 4 128 191 (slow_F1 n b0 b1 b2 b3 hn h1 h2 h3 h) (by omega) (by omega) (by omega) this.1 this.2 (fun g => by rw [if_neg (by omega), if_neg (by omega)]; omega)
      · have := long_4 n b0 b1 b2 b3 128 143 (by omega) (by subst h; rfl) (by subst h; rfl)
        exact cls n b0 b1 b2 b3 4 128 143 (slow_F4 n b0 b1 b2 b3 hn h1 h2 h3 h) (by omega) (by omega) (by omega) this.1 this.2 (fun g => by rw [if_neg (by omega), if_neg (by omega)]; omega)
    · have hb : b0 < 194 ∨ 245 ≤ b0 := by
        unfold firstT at hx
        repeat' split at hx
        all_goals omega
      have hb2 : b0 < 194 ∨ 245 ≤ b0 := hb
      refine .inr ⟨?_, ?_⟩
      · unfold longN
        rw [if_neg ha, if_neg (by omega), if_neg (by omega), if_neg (by omega)]
      · refine bad_eq n b0 b1 b2 b3 h0 ?_
        rcases hb with h | h
        · unfold firstT
          rw [if_neg ha, if_pos h]
        · unfold firstT
          rw [if_neg (by omega), if_neg (by omega), if_neg (by omega), if_neg (by omega), if_neg (by omega), if_neg (by omega), if_neg (by omega), if_neg (by omega), if_neg (by omega), if_neg (by omega)]

/-! ### The chapter's length of a character -/
def byteN (s : ByteArray) (i : Nat) : Nat := (s.get! i).toNat
theorem byteN_lt (s : ByteArray) (i : Nat) : byteN s i < 256 := (s.get! i).toNat_lt
theorem bt_byte (s : ByteArray) (i : Nat) (h : i < s.size) : bt s (i : Int) = (byteN s i : Int) := by
  have e : bt s (i : Int) = ((s[i]'h).toNat : Int) := by
    unfold bt
    rw [dif_pos (show (i : Int).toNat < s.size by rw [Int.toNat_natCast]; exact h)]
    rfl
  rw [e]
  unfold byteN
  rw [Utf8W.get!_of_lt s i h]
def tailN (n i b lo hi : Nat) : Bool := decide (i < n ∧ lo ≤ b ∧ b ≤ hi)
theorem tail_eq (s : ByteArray) (i lo hi : Nat) : mudlarkref02_tail.f s (i : Int) (lo : Int) (hi : Int) = some (tailN s.size i (byteN s i) lo hi) := by
  unfold mudlarkref02_tail.f tailN
  by_cases h : i < s.size
  · rw [if_pos (by omega), if_pos (by omega), bt_byte s i h]
    by_cases h2 : lo ≤ byteN s i
    · rw [if_pos (by omega)]
      congr 1
      by_cases h3 : byteN s i ≤ hi
      · rw [decide_eq_true (by omega), decide_eq_true (by omega)]
      · rw [decide_eq_false (by omega), decide_eq_false (by omega)]
    · rw [if_neg (by omega), decide_eq_false (by omega)]
  · rw [if_neg (by omega), decide_eq_false (by omega)]
def longS (s : ByteArray) (i : Nat) : Nat := longN (s.size - i) (byteN s i) (byteN s (i + 1)) (byteN s (i + 2)) (byteN s (i + 3))
theorem ref_j3 (s : ByteArray) (b0 : Nat) (two : Bool) (hb : ¬ b0 < 128) (x : Bool) (hx : x = (decide (224 ≤ b0 ∧ b0 ≤ 239) && two)) :
    Ev (fun k => mudlarkref02_long.j3 k s (b0 : Int) two x) (if 224 ≤ b0 ∧ b0 ≤ 239 ∧ two = true then 3 else if 240 ≤ b0 ∧ b0 ≤ 244 ∧ two = true ∧ tailN s.size 3 (byteN s 3) 128 191 = true then 4 else 0) := by
  have ht := tail_eq s 3 128 191
  refine Ev.step (f := fun _ => some (if 224 ≤ b0 ∧ b0 ≤ 239 ∧ two = true then 3 else if 240 ≤ b0 ∧ b0 ≤ 244 ∧ two = true ∧ tailN s.size 3 (byteN s 3) 128 191 = true then 4 else 0)) (fun k => ?_) (Ev.now _)
  simp only [mudlarkref02_long.j3]
  subst hx
  by_cases h1 : 224 ≤ b0 ∧ b0 ≤ 239
  · cases two
    · rw [decide_eq_true h1, if_neg (show ¬ ((true && false) = true) by simp), if_neg (show ¬ ((b0 : Int) ≥ 240) by omega), if_neg (show ¬ (224 ≤ b0 ∧ b0 ≤ 239 ∧ false = true) by simp), if_neg (show ¬ (240 ≤ b0 ∧ b0 ≤ 244 ∧ false = true ∧ tailN s.size 3 (byteN s 3) 128 191 = true) by simp)]
    · rw [decide_eq_true h1, if_pos (show (true && true) = true by simp), if_pos (show 224 ≤ b0 ∧ b0 ≤ 239 ∧ true = true from ⟨h1.1, h1.2, rfl⟩)]
  · rw [decide_eq_false h1, Bool.false_and, if_neg (show ¬ (false = true) by simp), if_neg (show ¬ (224 ≤ b0 ∧ b0 ≤ 239 ∧ two = true) from fun hh => h1 ⟨hh.1, hh.2.1⟩)]
    by_cases h2 : 240 ≤ b0
    · rw [if_pos (show (b0 : Int) ≥ 240 by omega)]
      by_cases h3 : b0 ≤ 244
      · rw [if_pos (show (b0 : Int) ≤ 244 by omega)]
        cases two
        · rw [if_neg (show ¬ (false = true) by simp), if_neg (show ¬ (240 ≤ b0 ∧ b0 ≤ 244 ∧ false = true ∧ tailN s.size 3 (byteN s 3) 128 191 = true) by simp)]
        · rw [if_pos rfl]
          have ht2 : mudlarkref02_tail.f s 3 128 191 = some (tailN s.size 3 (byteN s 3) 128 191) := ht
          rw [ht2, Option.bind_some]
          cases e : tailN s.size 3 (byteN s 3) 128 191
          · rw [if_neg (show ¬ (false = true) by simp), if_neg (show ¬ (240 ≤ b0 ∧ b0 ≤ 244 ∧ true = true ∧ false = true) by simp)]
          · rw [if_pos rfl, if_pos (show 240 ≤ b0 ∧ b0 ≤ 244 ∧ true = true ∧ true = true from ⟨h2, h3, rfl, rfl⟩)]
      · rw [if_neg (show ¬ ((b0 : Int) ≤ 244) by omega), if_neg (show ¬ (240 ≤ b0 ∧ b0 ≤ 244 ∧ two = true ∧ tailN s.size 3 (byteN s 3) 128 191 = true) from fun hh => h3 hh.2.1)]
    · rw [if_neg (show ¬ ((b0 : Int) ≥ 240) by omega), if_neg (show ¬ (240 ≤ b0 ∧ b0 ≤ 244 ∧ two = true ∧ tailN s.size 3 (byteN s 3) 128 191 = true) from fun hh => h2 hh.1)]
theorem ref_j2 (s : ByteArray) (b0 : Nat) (two : Bool) (hb : ¬ b0 < 128) :
    Ev (fun k => mudlarkref02_long.j2 k s (b0 : Int) two) (if 224 ≤ b0 ∧ b0 ≤ 239 ∧ two = true then 3 else if 240 ≤ b0 ∧ b0 ≤ 244 ∧ two = true ∧ tailN s.size 3 (byteN s 3) 128 191 = true then 4 else 0) := by
  by_cases h : 224 ≤ b0 ∧ b0 ≤ 239
  · refine Ev.step (fun k => ?_) (ref_j3 s b0 two hb two (by rw [decide_eq_true h, Bool.true_and]))
    simp only [mudlarkref02_long.j2]
    rw [if_pos (by omega), if_pos (by omega)]
  · refine Ev.step (fun k => ?_) (ref_j3 s b0 two hb false (by rw [decide_eq_false h, Bool.false_and]))
    simp only [mudlarkref02_long.j2]
    by_cases h2 : 224 ≤ b0
    · rw [if_pos (by omega), if_neg (by omega)]
    · rw [if_neg (by omega)]
theorem ref_j1 (s : ByteArray) (b0 lo hi : Nat) (hb : ¬ b0 < 128) :
    Ev (fun k => mudlarkref02_long.j1 k s (b0 : Int) (lo : Int) (hi : Int)) (if 224 ≤ b0 ∧ b0 ≤ 239 ∧ (tailN s.size 1 (byteN s 1) lo hi && tailN s.size 2 (byteN s 2) 128 191) = true then 3 else if 240 ≤ b0 ∧ b0 ≤ 244 ∧ (tailN s.size 1 (byteN s 1) lo hi && tailN s.size 2 (byteN s 2) 128 191) = true ∧ tailN s.size 3 (byteN s 3) 128 191 = true then 4 else 0) := by
  have ht1 : mudlarkref02_tail.f s 1 (lo : Int) (hi : Int) = some (tailN s.size 1 (byteN s 1) lo hi) := tail_eq s 1 lo hi
  have ht2 : mudlarkref02_tail.f s 2 128 191 = some (tailN s.size 2 (byteN s 2) 128 191) := tail_eq s 2 128 191
  refine Ev.step (fun k => ?_) (ref_j2 s b0 (tailN s.size 1 (byteN s 1) lo hi && tailN s.size 2 (byteN s 2) 128 191) hb)
  simp only [mudlarkref02_long.j1]
  rw [ht1, Option.bind_some]
  cases tailN s.size 1 (byteN s 1) lo hi
  · rw [if_neg (by simp), Bool.false_and]
  · rw [if_pos rfl, ht2, Option.bind_some, Bool.true_and]
theorem ref_j0 (s : ByteArray) (b0 : Nat) (hb : ¬ b0 < 128) :
    Ev (fun k => mudlarkref02_long.j0 k s (b0 : Int) false) (if 224 ≤ b0 ∧ b0 ≤ 239 ∧ (tailN s.size 1 (byteN s 1) (loN b0) (hiN b0) && tailN s.size 2 (byteN s 2) 128 191) = true then 3 else if 240 ≤ b0 ∧ b0 ≤ 244 ∧ (tailN s.size 1 (byteN s 1) (loN b0) (hiN b0) && tailN s.size 2 (byteN s 2) 128 191) = true ∧ tailN s.size 3 (byteN s 3) 128 191 = true then 4 else 0) := by
  refine Ev.step (fun k => ?_) (ref_j1 s b0 (loN b0) (hiN b0) hb)
  simp only [mudlarkref02_long.j0]
  rw [if_neg (by simp)]
  by_cases h1 : b0 = 224
  · subst h1; rfl
  · by_cases h2 : b0 = 237
    · subst h2; rfl
    · by_cases h3 : b0 = 240
      · subst h3; rfl
      · by_cases h4 : b0 = 244
        · subst h4; rfl
        · rw [if_neg (by omega), if_neg (by omega), if_neg (by omega), if_neg (by omega)]
          unfold loN hiN
          rw [if_neg h1, if_neg h3, if_neg h2, if_neg h4]
          rfl
theorem long_pure (s : ByteArray) (hb : ¬ byteN s 0 < 128) :
    (longS s 0 : Int) = if 194 ≤ byteN s 0 ∧ byteN s 0 ≤ 223 ∧ tailN s.size 1 (byteN s 1) 128 191 = true then 2 else (if 224 ≤ byteN s 0 ∧ byteN s 0 ≤ 239 ∧ (tailN s.size 1 (byteN s 1) (loN (byteN s 0)) (hiN (byteN s 0)) && tailN s.size 2 (byteN s 2) 128 191) = true then 3 else if 240 ≤ byteN s 0 ∧ byteN s 0 ≤ 244 ∧ (tailN s.size 1 (byteN s 1) (loN (byteN s 0)) (hiN (byteN s 0)) && tailN s.size 2 (byteN s 2) 128 191) = true ∧ tailN s.size 3 (byteN s 3) 128 191 = true then 4 else 0) := by
  unfold longS longN tailN
  rw [if_neg hb, Nat.sub_zero, Nat.zero_add, Nat.zero_add, Nat.zero_add]
  simp only [Bool.and_eq_true, decide_eq_true_eq, and_assoc]
  repeat' split
  all_goals first | rfl | (exfalso; omega)
theorem RefLong_eq (s : ByteArray) (h : 0 < s.size) : Ev (fun k => mudlarkref02_long.f k s) (longS s 0 : Int) := by
  have hb := bt_byte s 0 h
  have hb2 : bt s 0 = (byteN s 0 : Int) := hb
  have ht1 : mudlarkref02_tail.f s 1 128 191 = some (tailN s.size 1 (byteN s 1) 128 191) := tail_eq s 1 128 191
  by_cases ha : byteN s 0 < 128
  · have e : longS s 0 = 1 := by unfold longS longN; rw [if_pos ha]
    rw [e]
    refine Ev.step (f := fun _ => some ((1 : Nat) : Int)) (fun k => ?_) (Ev.now _)
    unfold mudlarkref02_long.f
    rw [if_pos (by omega), hb2, if_pos (by omega)]
    rfl
  · rw [long_pure s ha]
    have hj := ref_j0 s (byteN s 0) ha
    have hj2 : Ev (fun k => mudlarkref02_long.j0 k s (byteN s 0 : Int) true) 2 := by
      refine Ev.step (f := fun _ => some 2) (fun k => ?_) (Ev.now _)
      simp only [mudlarkref02_long.j0, if_true]
    by_cases h1 : 194 ≤ byteN s 0 ∧ byteN s 0 ≤ 223
    · cases e : tailN s.size 1 (byteN s 1) 128 191
      · rw [if_neg (by simp)]
        refine Ev.congr (fun k => ?_) hj
        unfold mudlarkref02_long.f
        rw [if_pos (by omega), hb2, if_neg (by omega), if_pos (by omega), if_pos (by omega), ht1, Option.bind_some, e]
      · rw [if_pos ⟨h1.1, h1.2, rfl⟩]
        refine Ev.congr (fun k => ?_) hj2
        unfold mudlarkref02_long.f
        rw [if_pos (by omega), hb2, if_neg (by omega), if_pos (by omega), if_pos (by omega), ht1, Option.bind_some, e]
    · rw [if_neg (fun hh => h1 ⟨hh.1, hh.2.1⟩)]
      refine Ev.congr (fun k => ?_) hj
      unfold mudlarkref02_long.f
      rw [if_pos (by omega), hb2, if_neg (by omega)]
      by_cases h2 : 194 ≤ byteN s 0
      · rw [if_pos (by omega), if_neg (by omega)]
      · rw [if_neg (by omega)]

/-! ### Utf8 and Plain -/
theorem dec_byte (s : ByteArray) (i : Nat) : Utf8.decode s i = decodeN (s.size - i) (byteN s i) (byteN s (i + 1)) (byteN s (i + 2)) (byteN s (i + 3)) := Lib.decode_at s i
theorem good_or (s : ByteArray) (i : Nat) (h : i < s.size) : GoodN (s.size - i) (byteN s i) (byteN s (i + 1)) (byteN s (i + 2)) (byteN s (i + 3)) ∨ (longS s i = 0 ∧ Utf8.decode s i = (65533, 1)) := by
  rw [dec_byte]
  exact long_dec _ _ _ _ _ (by omega) (byteN_lt _ _) (byteN_lt _ _) (byteN_lt _ _) (byteN_lt _ _)
theorem byte_shift (s : ByteArray) (pos i : Nat) : byteN (s.extract pos s.size) i = byteN s (pos + i) := by unfold byteN; rw [get_cut]
theorem size_shift (s : ByteArray) (pos : Nat) : (s.extract pos s.size).size = s.size - pos := by simp
theorem dec_shift (s : ByteArray) (pos i : Nat) : Utf8.decode (s.extract pos s.size) i = Utf8.decode s (pos + i) := by
  rw [dec_byte, dec_byte, byte_shift, byte_shift, byte_shift, byte_shift, size_shift, Nat.sub_sub, Nat.add_assoc, Nat.add_assoc, Nat.add_assoc]
theorem utf_shift (s : ByteArray) (pos : Nat) : ∀ (f i : Nat), utf8P (s.extract pos s.size) f i = utf8P s f (pos + i)
  | 0, _ => rfl
  | f + 1, i => by
    simp only [utf8P]
    rw [dec_shift, size_shift, utf_shift s pos f, Nat.add_assoc]
    by_cases h : i < s.size - pos
    · rw [if_pos h, if_pos (show pos + i < s.size by omega)]
    · rw [if_neg h, if_neg (show ¬ pos + i < s.size by omega)]
theorem utf_fuel (s : ByteArray) : ∀ (f g i : Nat), s.size - i ≤ f → s.size - i ≤ g → utf8P s f i = utf8P s g i
  | 0, g, i, h, _ => by rw [utf8P_end s 0 i (by omega), utf8P_end s g i (by omega)]
  | f + 1, 0, i, _, h => by rw [utf8P_end s (f + 1) i (by omega), utf8P_end s 0 i (by omega)]
  | f + 1, g + 1, i, h1, h2 => by
    simp only [utf8P]
    by_cases h : i < s.size
    · have := width_pos s i h
      rw [if_pos h, if_pos h, utf_fuel s f g _ (by omega) (by omega)]
    · rw [if_neg h, if_neg h]
def U (s : ByteArray) : Bool := utf8P s s.size 0
theorem U_step (s : ByteArray) (h : 0 < s.size) : U s = if longS s 0 = 0 then false else U (s.extract (longS s 0) s.size) := by
  obtain ⟨m, hm⟩ : ∃ m, s.size = m + 1 := ⟨s.size - 1, by omega⟩
  have e : U s = if (Utf8.decode s 0).1 = 65533 ∧ (Utf8.decode s 0).2 = 1 then false else utf8P s m (0 + (Utf8.decode s 0).2) := by
    unfold U
    conv => lhs; rw [hm]
    simp only [utf8P]
    rw [if_pos h]
  rw [e]
  rcases good_or s 0 h with g | ⟨g1, g2⟩
  · have gw : (Utf8.decode s 0).2 = longS s 0 := by rw [dec_byte]; exact g.wide
    have gs : longS s 0 ≠ 0 := g.some
    have gg : ¬ ((Utf8.decode s 0).1 = 65533 ∧ (Utf8.decode s 0).2 = 1) := by rw [dec_byte]; exact g.good
    rw [if_neg gg, if_neg gs, gw, Nat.zero_add]
    unfold U
    rw [utf_shift, size_shift, Nat.add_zero]
    exact utf_fuel s _ _ _ (by omega) (by omega)
  · rw [g1, g2]
    simp
theorem refUtf : ∀ (n : Nat) (s : ByteArray), s.size = n → n ≤ 9223372036854775807 → Ev (fun k => mudlarkref02_Utf8.l0 k s) (U s)
  | 0, s, h, _ => by
    have e : U s = true := by unfold U; exact utf8P_end s _ 0 (by omega)
    rw [e]
    refine Ev.step (f := fun _ => some true) (fun k => ?_) (Ev.now _)
    simp only [mudlarkref02_Utf8.l0]
    rw [if_neg (by omega)]
  | n + 1, s, h, hn => by
    have hp : 0 < s.size := by omega
    rw [U_step s hp]
    have hr : longS s 0 ≤ s.size := by
      rcases good_or s 0 hp with g | ⟨g1, _⟩
      · have : longS s 0 ≤ s.size - 0 := g.room
        omega
      · omega
    by_cases h0 : longS s 0 = 0
    · rw [if_pos h0]
      have hl := RefLong_eq s hp
      rw [h0] at hl
      refine Ev.step (f := fun k => (mudlarkref02_long.f k s).bind fun t => (if t = 0 then (some false) else (if 0 ≤ t then (if t ≤ (s.size : Int) then (mudlarkref02_Utf8.l0 k (s.extract (t : Int).toNat s.size)) else (none)) else (none)))) (fun k => ?_) (Ev.bind hl (Ev.now _))
      simp only [mudlarkref02_Utf8.l0]
      rw [if_pos (by omega)]
    · rw [if_neg h0]
      have hz := size_shift s (longS s 0)
      have ih := refUtf (s.size - longS s 0) (s.extract (longS s 0) s.size) hz (by omega)
      have c1 : ¬ ((longS s 0 : Int) = 0) := by omega
      have c2 : (0 : Int) ≤ (longS s 0 : Int) := by omega
      have c3 : (longS s 0 : Int) ≤ (s.size : Int) := by omega
      refine Ev.step (f := fun k => (mudlarkref02_long.f k s).bind fun t => (if t = 0 then (some false) else (if 0 ≤ t then (if t ≤ (s.size : Int) then (mudlarkref02_Utf8.l0 k (s.extract (t : Int).toNat s.size)) else (none)) else (none)))) (fun k => ?_) (Ev.bind (RefLong_eq s hp) ?_)
      · simp only [mudlarkref02_Utf8.l0]
        rw [if_pos (by omega)]
      · simp only [if_neg c1, if_pos c2, if_pos c3, Int.toNat_natCast]
        exact ih
termination_by n => n
decreasing_by omega
theorem RefUtf8_eq (s : ByteArray) (h : s.size ≤ 9223372036854775807) : Ev (fun k => mudlarkref02_Utf8.f k s) (U s) := refUtf s.size s rfl h
theorem Utf8_eq (s : ByteArray) : str_Utf8.f s = some (U s) := rfl

/-- A byte that is a control. -/
def ctl (b : Nat) : Bool := decide (b < 32) || decide (b = 127)
/-- No control from a place on, so many bytes. -/
def noCtl (s : ByteArray) : Nat → Nat → Bool
  | 0, _ => true
  | f + 1, i => if i < s.size then (if ctl (byteN s i) = true then false else noCtl s f (i + 1)) else true
theorem noCtl_fuel (s : ByteArray) : ∀ (f g i : Nat), s.size - i ≤ f → s.size - i ≤ g → noCtl s f i = noCtl s g i
  | 0, 0, _, _, _ => rfl
  | 0, g + 1, i, h, _ => by simp only [noCtl]; rw [if_neg (by omega)]
  | f + 1, 0, i, _, h => by simp only [noCtl]; rw [if_neg (by omega)]
  | f + 1, g + 1, i, h1, h2 => by
    simp only [noCtl]
    by_cases h : i < s.size
    · rw [if_pos h, if_pos h, noCtl_fuel s f g _ (by omega) (by omega)]
    · rw [if_neg h, if_neg h]
theorem ctl_high (b : Nat) (h : 128 ≤ b) : ctl b = false := by
  unfold ctl
  rw [decide_eq_false (by omega), decide_eq_false (by omega)]
  rfl
theorem noCtl_skip (s : ByteArray) (f i : Nat) (h : i < s.size) (hb : 128 ≤ byteN s i) : noCtl s (f + 1) i = noCtl s f (i + 1) := by
  simp only [noCtl]
  rw [if_pos h, ctl_high _ hb, if_neg (by simp)]
theorem noCtl_run (s : ByteArray) (f i w : Nat) (hw : 2 ≤ w ∧ w ≤ 4) (hr : i + w ≤ s.size) (hf : s.size - i ≤ f) (h0 : 128 ≤ byteN s i) (h1 : 128 ≤ byteN s (i + 1)) (h2 : 3 ≤ w → 128 ≤ byteN s (i + 2)) (h3 : 4 ≤ w → 128 ≤ byteN s (i + 3)) :
    noCtl s f i = noCtl s f (i + w) := by
  have e1 : noCtl s f i = noCtl s (f + 3) (i + 1) := by
    rw [noCtl_fuel s f (f + 3 + 1) i hf (by omega), noCtl_skip s (f + 3) i (by omega) h0]
  have e2 : noCtl s (f + 3) (i + 1) = noCtl s (f + 2) (i + 2) := noCtl_skip s (f + 2) (i + 1) (by omega) h1
  have e3 : 3 ≤ w → noCtl s (f + 2) (i + 2) = noCtl s (f + 1) (i + 3) := fun h => noCtl_skip s (f + 1) (i + 2) (by omega) (h2 h)
  have e4 : 4 ≤ w → noCtl s (f + 1) (i + 3) = noCtl s f (i + 4) := fun h => noCtl_skip s f (i + 3) (by omega) (h3 h)
  rw [e1, e2]
  by_cases c3 : 3 ≤ w
  · rw [e3 c3]
    by_cases c4 : 4 ≤ w
    · rw [e4 c4, show i + 4 = i + w by omega]
    · rw [show i + 3 = i + w by omega]
      exact noCtl_fuel s _ _ _ (by omega) (by omega)
  · rw [show i + 2 = i + w by omega]
    exact noCtl_fuel s _ _ _ (by omega) (by omega)
theorem plain_utf (s : ByteArray) : ∀ (f i : Nat), s.size - i ≤ f → (plainP s f i && utf8P s f i) = (noCtl s f i && utf8P s f i)
  | 0, i, _ => rfl
  | f + 1, i, hf => by
    by_cases h : i < s.size
    · simp only [plainP, utf8P]
      rw [if_pos h, if_pos h]
      rcases good_or s i h with g | ⟨g1, g2⟩
      · have gw : (Utf8.decode s i).2 = longS s i := by rw [dec_byte]; exact g.wide
        have gs : longS s i ≠ 0 := g.some
        have gr : longS s i ≤ s.size - i := g.room
        have gg : ¬ ((Utf8.decode s i).1 = 65533 ∧ (Utf8.decode s i).2 = 1) := by rw [dec_byte]; exact g.good
        have ih := plain_utf s f (i + longS s i) (by omega)
        rw [if_neg gg, gw]
        by_cases hb : byteN s i < 128
        · have hl := g.low hb
          have hd : (Utf8.decode s i).1 = byteN s i := by rw [dec_byte]; exact hl.1
          have hl1 : longS s i = 1 := hl.2
          rw [hl1] at ih ⊢
          rw [hd]
          simp only [noCtl]
          rw [if_pos h]
          by_cases hc : ctl (byteN s i) = true
          · have hc2 : byteN s i < 32 ∨ byteN s i = 127 := by simpa [ctl] using hc
            rw [if_pos hc2, if_pos hc]
          · have hc2 : ¬ (byteN s i < 32 ∨ byteN s i = 127) := by simpa [ctl] using hc
            rw [if_neg hc2, if_neg hc]
            exact ih
        · have hh := g.high (by omega)
          have hd : 128 ≤ (Utf8.decode s i).1 := by rw [dec_byte]; exact hh.1
          have h2 : 2 ≤ longS s i := by
            rcases Nat.lt_or_ge (longS s i) 2 with h1 | h1
            · have e1 : longS s i = 1 := by omega
              exfalso
              have : longN (s.size - i) (byteN s i) (byteN s (i + 1)) (byteN s (i + 2)) (byteN s (i + 3)) = 1 := e1
              unfold longN at this
              rw [if_neg hb] at this
              repeat' split at this
              all_goals omega
            · exact h1
          rw [if_neg (by omega)]
          rw [noCtl_run s (f + 1) i (longS s i) ⟨h2, hh.2.2.2.2⟩ (by omega) hf (by omega) (hh.2.1 h2) hh.2.2.1 hh.2.2.2.1]
          rw [noCtl_fuel s (f + 1) f _ (by omega) (by omega)]
          exact ih
      · rw [g2]
        simp
    · rw [plainP_end s _ i h]
      have : noCtl s (f + 1) i = true := by simp only [noCtl]; rw [if_neg h]
      rw [this]
theorem refPlain (s : ByteArray) (hs : s.size ≤ 4294967296) : ∀ (d i : Nat), s.size - i = d → i ≤ s.size → Ev (fun k => mudlarkref02_Plain.l0 k s (i : Int)) (noCtl s d i && U s)
  | 0, i, hd, hi => by
    obtain rfl : i = s.size := by omega
    simp only [noCtl, Bool.true_and]
    refine Ev.step (f := fun k => (mudlarkref02_Utf8.f k s).bind fun t => some t) (fun k => ?_) (Ev.bind (RefUtf8_eq s (by omega)) (Ev.now _))
    simp only [mudlarkref02_Plain.l0]
    rw [if_neg (by omega)]
  | d + 1, i, hd, hi => by
    have hlt : i < s.size := by omega
    have hb := bt_byte s i hlt
    have c1 : (i : Int) < (s.size : Int) := by omega
    have c2 : (0 : Int) ≤ (i : Int) := by omega
    simp only [noCtl]
    rw [if_pos hlt]
    by_cases h1 : byteN s i < 32
    · rw [if_pos (show ctl (byteN s i) = true by simp [ctl, h1]), Bool.false_and]
      refine Ev.step (f := fun _ => some false) (fun k => ?_) (Ev.now _)
      simp only [mudlarkref02_Plain.l0]
      rw [if_pos c1, if_pos c2, hb, if_pos (by omega)]
    · by_cases h2 : byteN s i = 127
      · rw [if_pos (show ctl (byteN s i) = true by simp [ctl, h2]), Bool.false_and]
        refine Ev.step (f := fun _ => some false) (fun k => ?_) (Ev.now _)
        simp only [mudlarkref02_Plain.l0]
        rw [if_pos c1, if_pos c2, hb, if_neg (by omega), if_pos (by omega)]
      · rw [if_neg (show ¬ ctl (byteN s i) = true by simp [ctl, h1, h2])]
        have ih := refPlain s hs d (i + 1) (by omega) (by omega)
        refine Ev.step (fun k => ?_) ih
        simp only [mudlarkref02_Plain.l0]
        rw [if_pos c1, if_pos c2, hb, if_neg (by omega), if_neg (by omega), next_i i (by omega)]
theorem RefPlain_eq (s : ByteArray) (hs : s.size ≤ 4294967296) : Ev (fun k => mudlarkref02_Plain.f k s) (noCtl s s.size 0 && U s) := refPlain s hs s.size 0 (by omega) (Nat.zero_le _)
theorem Plain_eq (s : ByteArray) : str_Plain.f s = some (noCtl s s.size 0 && U s) := congrArg some (plain_utf s s.size 0 (by omega))
end Go.Proofs.YtllcgkjomeegdaaDoor.P
