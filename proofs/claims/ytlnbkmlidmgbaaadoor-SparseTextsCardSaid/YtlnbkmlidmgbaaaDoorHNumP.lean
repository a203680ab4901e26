/- Numbers of fields: what the printed parsers come to. No conditions. -/
import Derived.Test.YtlnbkmlidmgbaaaDoorHOct
import Derived.Test.YtlnbkmlidmgbaaaDoorPx7
import Derived.Test.YtlnbkmlidmgbaaaDoorPx9
import Derived.Test.YtlnbkmlidmgbaaaDoorPx10
import Derived.Laws.BitsLemmas
namespace Go.Proofs.YtlnbkmlidmgbaaaDoor.P
open Go.RowKit Go.Shelf Go.Lib Go.Proofs.YtlnbkmlidmgbaaaDoorW.PrintWords Go.Proofs.YtlnbkmlidmgbaaaDoorW.PrintLast Go.Proofs.YtlnbkmlidmgbaaaDoorW.PrintMore
set_option linter.unusedVariables false
set_option linter.unusedSimpArgs false

theorem wrap64_id (x : Int) (h0 : -9223372036854775808 ≤ x) (h1 : x ≤ 9223372036854775807) : wrap64 x = x := by
  unfold wrap64
  omega
theorem rd_at (l : List Int) (i : Nat) (h : i < l.length) : rd l (i : Int) = l[i] := by simp [rd, h]
theorem wf_u8 {x : Int} (h : (Lit.int .u8 x).wf = true) : 0 ≤ x ∧ x < 256 := by
  simp [Lit.wf, IntKind.min, IntKind.max, IntKind.signed, IntKind.bits] at h
  omega
theorem wf_bytes {l : List Int} (h : ∀ x ∈ l, (Lit.int .u8 x).wf = true) : Bytes l := fun x hx => wf_u8 (h x hx)

def binEnd (n : Int) : Int × Bool := if n > 4611686018427387904 then (0, false) else if n < -4611686018427387904 then (0, false) else (n, true)
def binLoop : Int → List Int → Int × Bool
  | n, [] => binEnd n
  | n, c :: l => if n > 18014398509481984 then (0, false) else if n < -18014398509481985 then (0, false) else binLoop (n * 256 + c) l
def binTop (c : Int) : Int := if c < 192 then c - 128 else c - 256
def binF : List Int → Int × Bool
  | [] => (0, false)
  | c :: r => if c < 128 then (0, false) else binLoop (binTop c) r
theorem top_u8 : ∀ c : Fin 256, wrap64 (Go.bits .andNot .u8 (c.val : Int) 192) = (c.val : Int) % 64 ∧ wrap64 (Go.bits .and .u8 (c.val : Int) 64) = (if (c.val : Int) % 128 < 64 then 0 else 64) ∧ Go.bits .or .u8 (c.val : Int) 128 = (c.val : Int) % 128 + 128 := by decide +kernel
theorem top_eq (c : Int) (h0 : 128 ≤ c) (h1 : c < 256) : wrap64 (wrap64 (Go.bits .andNot .u8 c 192) - wrap64 (Go.bits .and .u8 c 64)) = binTop c := by
  obtain ⟨m, rfl⟩ := Int.eq_ofNat_of_zero_le (show 0 ≤ c by omega)
  have h := top_u8 ⟨m, by omega⟩
  dsimp only at h
  rw [h.1, h.2.1]
  clear h
  unfold binTop
  rw [wrap64_id _ (by split <;> omega) (by split <;> omega)]
  split <;> split <;> omega
theorem or_128 (c : Int) (h0 : 0 ≤ c) (h1 : c < 256) : Go.bits .or .u8 c 128 = c % 128 + 128 := by
  obtain ⟨m, rfl⟩ := Int.eq_ofNat_of_zero_le h0
  exact (top_u8 ⟨m, by omega⟩).2.2
/-- A number of 64 bits, moved up by eight, and a byte. -/
theorem or_byte (n c : Int) (h0 : -18014398509481985 ≤ n) (h1 : n ≤ 18014398509481984) (hc : 0 ≤ c) (hc1 : c < 256) : Go.bits .or .i64 (wrap64 (n * 256)) (wrap64 c) = n * 256 + c := by
  rw [wrap64_id _ (by omega) (by omega), wrap64_id c (by omega) (by omega)]
  obtain ⟨b, rfl⟩ := Int.eq_ofNat_of_zero_le hc
  have hN : ∃ a : Nat, ((n * 256 : Int) % 18446744073709551616) = ((a * 256 : Nat) : Int) ∧ a * 256 < 18446744073709551616 := by
    refine ⟨((n % 72057594037927936).toNat), ?_, ?_⟩ <;> omega
  obtain ⟨a, ha, hal⟩ := hN
  have hb : b < 256 := by omega
  have hor : a * 256 ||| b = a * 256 + b := by
    have := Nat.two_pow_add_eq_or_of_lt (i := 8) (show b < 2 ^ 8 by simpa using hb) a
    have e : (2 : Nat) ^ 8 = 256 := by decide
    rw [e, Nat.mul_comm] at this
    exact this.symm
  have hx : (BitVec.ofInt 64 (n * 256)).toNat = a * 256 := by
    rw [BitVec.toNat_ofInt]
    have e : ((2 ^ 64 : Nat) : Int) = 18446744073709551616 := by decide
    rw [e, ha]; exact Int.toNat_natCast _
  have hy : (BitVec.ofInt 64 (b : Int)).toNat = b := by
    rw [BitVec.ofInt_natCast, BitVec.toNat_ofNat]
    exact Nat.mod_eq_of_lt (by omega)
  show IntKind.i64.wrap (((BitVec.ofInt 64 (n * 256)) ||| (BitVec.ofInt 64 (b : Int))).toNat : Int) = n * 256 + (b : Int)
  rw [BitVec.toNat_or, hx, hy, hor, IntKind.wrap_i64]
  omega
theorem binLoop_eq (l : List Int) (hb : Bytes l) (hl : l.length < 9223372036854775807) : ∀ (d i : Nat) (n : Int), l.length - i = d → i ≤ l.length →
    Ev (fun k => num_Binary.l0 k n l (l.length : Int) (i : Int)) (binLoop n (l.drop i))
  | 0, i, n, hd, hi => by
    have e : i = l.length := by omega
    subst e
    rw [List.drop_length]
    refine Ev.step (f := fun _ => some (binLoop n [])) (fun k => ?_) (Ev.now _)
    simp only [num_Binary.l0, binLoop, binEnd]
    rw [if_neg (by omega)]
    split
    · rfl
    · split <;> rfl
  | d + 1, i, n, hd, hi => by
    have hlt : i < l.length := by omega
    have hxr := hb l[i] (List.getElem_mem _)
    have er : rd l (i : Int) = l[i] := by simp [rd, hlt]
    have ed : l.drop i = l[i] :: l.drop (i + 1) := List.drop_eq_getElem_cons hlt
    have ew : wrap64 ((i : Int) + 1) = ((i + 1 : Nat) : Int) := by rw [wrap64_id _ (by omega) (by omega)]; push_cast; rfl
    rw [ed, binLoop]
    by_cases h1 : n > 18014398509481984
    · rw [if_pos h1]
      refine Ev.step (f := fun _ => some (0, false)) (fun k => ?_) (Ev.now _)
      simp only [num_Binary.l0]
      rw [if_pos (by omega), if_pos (by omega), if_pos (by omega), if_pos h1]
    · rw [if_neg h1]
      by_cases h2 : n < -18014398509481985
      · rw [if_pos h2]
        refine Ev.step (f := fun _ => some (0, false)) (fun k => ?_) (Ev.now _)
        simp only [num_Binary.l0]
        rw [if_pos (by omega), if_pos (by omega), if_pos (by omega), if_neg h1, if_pos h2]
      · rw [if_neg h2]
        have ih := binLoop_eq l hb hl d (i + 1) (n * 256 + l[i]) (by omega) (by omega)
        refine Ev.step (fun k => ?_) ih
        simp only [num_Binary.l0]
        rw [if_pos (by omega), if_pos (by omega), if_pos (by omega), if_neg h1, if_neg h2, er, or_byte n l[i] (by omega) (by omega) hxr.1 hxr.2, ew]
theorem Binary_eq (l : List Int) (hb : Bytes l) (hl : l.length < 9223372036854775807) : Ev (fun k => num_Binary.f k l) (binF l) := by
  match l, hb, hl with
  | [], _, _ =>
    have hn : Ev (fun k => num_Binary.j0 k [] true) ((0 : Int), false) := Ev.step (f := fun _ => some ((0 : Int), false)) (fun k => by simp only [num_Binary.j0, if_true]) (Ev.now _)
    refine Ev.congr (fun k => ?_) hn
    unfold num_Binary.f; rw [if_pos (by simp)]
  | c :: r, hb, hl =>
    have hc := hb c (List.mem_cons_self ..)
    have e0 : rd (c :: r) 0 = c := by simp [rd]
    have hb' : Bytes r := fun x hx => hb x (List.mem_cons_of_mem _ hx)
    have hl' : r.length < 9223372036854775807 := by simp at hl; omega
    refine Ev.congr (f := fun k => num_Binary.j0 k (c :: r) (decide (c < 128))) (fun k => ?_) ?_
    · unfold num_Binary.f; rw [if_neg (by simp only [List.length_cons]; omega), if_pos (by simp only [List.length_cons]; omega), e0]
    · show Ev _ (if c < 128 then (0, false) else binLoop (binTop c) r)
      by_cases h : c < 128
      · rw [if_pos h, decide_eq_true h]
        refine Ev.step (f := fun _ => some ((0 : Int), false)) (fun k => ?_) (Ev.now _)
        simp only [num_Binary.j0, if_true]
      · rw [if_neg h, decide_eq_false h]
        have hL := binLoop_eq r hb' hl' r.length 0 (binTop c) (by omega) (by omega)
        rw [List.drop_zero] at hL
        refine Ev.step (fun k => ?_) hL
        simp only [num_Binary.j0]
        rw [if_neg (by simp), if_pos (by simp only [List.length_cons]; omega), if_pos (by simp only [List.length_cons]; omega), e0, top_eq c (by omega) hc.2]
        rfl

/-! ### the way back -/

def parseF (l : List Int) : Int × Bool := if (l.length : Int) > 0 ∧ rd l 0 ≥ 128 then binF l else octF l
theorem Octal_eq (l : List Int) (hb : Bytes l) : num_Octal.f l = some (octF l) := by
  unfold num_Octal.f
  rw [if_pos ((bytesB_iff l).2 hb)]
theorem Parse_eq (l : List Int) (hb : Bytes l) (hl : l.length < 9223372036854775807) : Ev (fun k => num_Parse.f k l) (parseF l) := by
  have hyes : Ev (fun k => num_Parse.j0 k l true) (binF l) := by
    refine Ev.step (f := fun k => (num_Binary.f k l).bind fun t => some (t.1, t.2)) (fun k => by simp only [num_Parse.j0, if_true]) ?_
    exact Ev.bind (Binary_eq l hb hl) (Ev.now _)
  have hno : Ev (fun k => num_Parse.j0 k l false) (octF l) := by
    refine Ev.step (f := fun _ => some (octF l)) (fun k => ?_) (Ev.now _)
    simp only [num_Parse.j0]
    rw [if_neg (by simp), Octal_eq l hb, Option.bind_some]
  unfold parseF
  by_cases h : (l.length : Int) > 0
  · by_cases h2 : rd l 0 ≥ 128
    · rw [if_pos ⟨h, h2⟩]
      refine Ev.congr (fun k => ?_) hyes
      unfold num_Parse.f
      rw [if_pos h, if_pos h, decide_eq_true h2]
    · rw [if_neg (fun q => h2 q.2)]
      refine Ev.congr (fun k => ?_) hno
      unfold num_Parse.f
      rw [if_pos h, if_pos h, decide_eq_false h2]
  · rw [if_neg (fun q => h q.1)]
    refine Ev.congr (fun k => ?_) hno
    unfold num_Parse.f
    rw [if_neg h]

theorem next_i (i : Nat) (h : i < 9223372036854775807) : wrap64 ((i : Int) + 1) = ((i + 1 : Nat) : Int) := by rw [wrap64_id _ (by omega) (by omega)]; push_cast; rfl
theorem refBlank (l : List Int) (hl : l.length < 9223372036854775807) : ∀ (d i : Nat), l.length - i = d → i ≤ l.length → Ev (fun k => mudlarkref01_blank.l0 k l true (i : Int)) ((l.drop i).all blankB)
  | 0, i, hd, hi => by
    have e : i = l.length := by omega
    subst e
    refine Ev.step (f := fun _ => some true) (fun k => by simp only [mudlarkref01_blank.l0]; rw [if_neg (by omega)]) ?_
    rw [List.drop_length]
    exact Ev.now _
  | d + 1, i, hd, hi => by
    have hlt : i < l.length := by omega
    have er : rd l (i : Int) = l[i] := rd_at l i hlt
    have ed : l.drop i = l[i] :: l.drop (i + 1) := List.drop_eq_getElem_cons hlt
    have ih := refBlank l hl d (i + 1) (by omega) (by omega)
    rw [ed, List.all_cons]
    by_cases h1 : l[i] = 32
    · refine Ev.step (f := fun k => mudlarkref01_blank.l0 k l true ((i + 1 : Nat) : Int)) (fun k => ?_) (by simpa [blankB, h1] using ih)
      simp only [mudlarkref01_blank.l0]
      rw [if_pos (by omega), if_pos (by omega), er, if_pos h1, next_i i (by omega)]
    · by_cases h2 : l[i] = 0
      · refine Ev.step (f := fun k => mudlarkref01_blank.l0 k l true ((i + 1 : Nat) : Int)) (fun k => ?_) (by simpa [blankB, h2] using ih)
        simp only [mudlarkref01_blank.l0]
        rw [if_pos (by omega), if_pos (by omega), er, if_neg h1, if_pos trivial, if_pos h2, next_i i (by omega)]
      · refine Ev.step (f := fun k => some false) (fun k => ?_) (by simpa [blankB, h1, h2] using Ev.now false)
        simp only [mudlarkref01_blank.l0]
        rw [if_pos (by omega), if_pos (by omega), er, if_neg h1, if_pos trivial, if_neg h2]
theorem RefBlank_eq (l : List Int) (hl : l.length < 9223372036854775807) : Ev (fun k => mudlarkref01_blank.f k l true) (l.all blankB) := by
  have h := refBlank l hl l.length 0 (by omega) (by omega)
  rw [List.drop_zero] at h
  exact h
def octAt (x : List Int) (n : Int) : Int × Bool := if n > 4611686018427387904 then (0, false) else octRes (octLoop x n)
theorem refOther (l : List Int) (hl : l.length < 9223372036854775807) (i : Nat) (n : Int) (hi : i ≤ l.length) (h : (l.drop i).length = 0 ∨ rd (l.drop i) 0 < 48 ∨ 55 < rd (l.drop i) 0) :
    Ev (fun k => mudlarkref01_Octal.j3 k l (i : Int) n false) (octAt (l.drop i) n) := by
  unfold octAt
  rw [octLoop_other _ _ h]
  by_cases h1 : n > 4611686018427387904
  · rw [if_pos h1]
    refine Ev.step (f := fun _ => some (0, false)) (fun k => ?_) (Ev.now _)
    simp only [mudlarkref01_Octal.j3]
    rw [if_neg (by simp), if_pos h1]
  · rw [if_neg h1]
    have hb := RefBlank_eq (l.drop i) (by rw [List.length_drop]; omega)
    have hb2 : Ev (fun k => (mudlarkref01_blank.f k (l.drop i) true).bind fun t => if t = true then some (n, true) else some (0, false)) (octRes (some (n, l.drop i))) := by
      refine Ev.bind hb ?_
      simp only [octRes]
      by_cases h2 : (l.drop i).all blankB = true
      · simp only [h2, if_true]; exact Ev.now _
      · simp only [if_neg h2]; exact Ev.now _
    refine Ev.step (fun k => ?_) hb2
    simp only [mudlarkref01_Octal.j3]
    rw [if_neg (by simp), if_neg h1, if_pos (by omega), if_pos (by omega), Int.toNat_natCast]
theorem refDigits (l : List Int) (hl : l.length < 9223372036854775807) : ∀ (d i : Nat) (n : Int), l.length - i = d → i ≤ l.length → 0 ≤ n → n ≤ 4611686018427387911 →
    Ev (fun k => mudlarkref01_Octal.l1 k l (i : Int) n) (octAt (l.drop i) n)
  | 0, i, n, hd, hi, h0, h1 => by
    have e : i = l.length := by omega
    subst e
    refine Ev.step (fun k => ?_) (refOther l hl l.length n (Nat.le_refl _) (.inl (by simp)))
    simp only [mudlarkref01_Octal.l1]
    rw [if_neg (by omega)]
  | d + 1, i, n, hd, hi, h0, h1 => by
    have hlt : i < l.length := by omega
    have er : rd l (i : Int) = l[i] := rd_at l i hlt
    have ed : l.drop i = l[i] :: l.drop (i + 1) := List.drop_eq_getElem_cons hlt
    have er2 : rd (l.drop i) 0 = l[i] := by rw [ed]; rfl
    have hdl : 0 < (l.drop i).length := by rw [List.length_drop]; omega
    by_cases h2 : 48 ≤ l[i]
    · by_cases h3 : l[i] ≤ 55
      · have hdg : (l.drop i).drop 1 = l.drop (i + 1) := by rw [List.drop_drop]
        have hstep := octLoop_digit (l.drop i) n hdl (by rw [er2]; exact h2) (by rw [er2]; exact h3)
        rw [er2, hdg] at hstep
        by_cases h4 : n > 576460752303423488
        · have e : octAt (l.drop i) n = (0, false) := by
            unfold octAt
            by_cases h5 : n > 4611686018427387904
            · rw [if_pos h5]
            · rw [if_neg h5, hstep, if_pos (.inl h4)]; rfl
          rw [e]
          refine Ev.step (f := fun k => mudlarkref01_Octal.j3 k l (i : Int) n true) (fun k => ?_) (Ev.step (f := fun _ => some (0, false)) (fun k => ?_) (Ev.now _))
          · simp only [mudlarkref01_Octal.l1]
            rw [if_pos (by omega), if_pos (by omega), er, if_pos h2, show decide (l[i] ≤ 55) = true from decide_eq_true h3]
          · simp only [mudlarkref01_Octal.j3]
            rw [if_pos trivial, if_pos h4]
        · have ih := refDigits l hl d (i + 1) (8 * n + (l[i] - 48)) (by omega) (by omega) (by omega) (by omega)
          have e : octAt (l.drop i) n = octAt (l.drop (i + 1)) (8 * n + (l[i] - 48)) := by
            unfold octAt
            rw [if_neg (by omega), hstep]
            by_cases h5 : 8 * n + (l[i] - 48) > 4611686018427387904
            · rw [if_pos (.inr h5), if_pos h5]; rfl
            · rw [if_neg (by omega), if_neg h5]
          rw [e]
          refine Ev.step (f := fun k => mudlarkref01_Octal.j3 k l (i : Int) n true) (fun k => ?_) (Ev.step (fun k => ?_) ih)
          · simp only [mudlarkref01_Octal.l1]
            rw [if_pos (by omega), if_pos (by omega), er, if_pos h2, show decide (l[i] ≤ 55) = true from decide_eq_true h3]
          · simp only [mudlarkref01_Octal.j3]
            rw [if_pos trivial, if_neg h4, if_pos (by omega), if_pos (by omega), er, next_i i (by omega), wrap64_id (8 * n) (by omega) (by omega), wrap64_id l[i] (by omega) (by omega), wrap64_id (8 * n + l[i]) (by omega) (by omega), wrap64_id _ (by omega) (by omega)]
            congr 1
            omega
      · refine Ev.step (fun k => ?_) (refOther l hl i n hi (.inr (.inr (by rw [er2]; omega))))
        simp only [mudlarkref01_Octal.l1]
        rw [if_pos (by omega), if_pos (by omega), er, if_pos h2, show decide (l[i] ≤ 55) = false from decide_eq_false h3]
    · refine Ev.step (fun k => ?_) (refOther l hl i n hi (.inr (.inl (by rw [er2]; omega))))
      simp only [mudlarkref01_Octal.l1]
      rw [if_pos (by omega), if_pos (by omega), er, if_neg h2]
theorem refSkip (l : List Int) (hl : l.length < 9223372036854775807) : ∀ (d i : Nat), l.length - i = d → i ≤ l.length →
    Ev (fun k => mudlarkref01_Octal.l0 k l (i : Int)) (octRes (octLoop ((l.drop i).dropWhile (fun x => decide (x = 32))) 0))
  | 0, i, hd, hi => by
    have e : i = l.length := by omega
    subst e
    have h := refDigits l hl 0 l.length 0 (by omega) (by omega) (by omega) (by omega)
    refine Ev.step (f := fun k => mudlarkref01_Octal.j1 k l (l.length : Int)) (fun k => ?_) (Ev.step (fun k => ?_) (by simpa [octAt] using h))
    · simp only [mudlarkref01_Octal.l0]
      rw [if_neg (by omega)]
    · rfl
  | d + 1, i, hd, hi => by
    have hlt : i < l.length := by omega
    have er : rd l (i : Int) = l[i] := rd_at l i hlt
    have ed : l.drop i = l[i] :: l.drop (i + 1) := List.drop_eq_getElem_cons hlt
    by_cases h1 : l[i] = 32
    · have ih := refSkip l hl d (i + 1) (by omega) (by omega)
      refine Ev.step (fun k => ?_) (by rw [ed, List.dropWhile_cons_of_pos (by simpa using h1)]; exact ih)
      simp only [mudlarkref01_Octal.l0]
      rw [if_pos (by omega), if_pos (by omega), er, if_pos h1, next_i i (by omega)]
    · have h := refDigits l hl (d + 1) i 0 (by omega) (by omega) (by omega) (by omega)
      have e : (l.drop i).dropWhile (fun x => decide (x = 32)) = l.drop i := by rw [ed, List.dropWhile_cons_of_neg (by simpa using h1)]
      rw [e]
      refine Ev.step (f := fun k => mudlarkref01_Octal.j1 k l (i : Int)) (fun k => ?_) (Ev.step (fun k => ?_) (by simpa [octAt] using h))
      · simp only [mudlarkref01_Octal.l0]
        rw [if_pos (by omega), if_pos (by omega), er, if_neg h1]
      · rfl
theorem RefOctal_eq (l : List Int) (hl : l.length < 9223372036854775807) : Ev (fun k => mudlarkref01_Octal.f k l) (octF l) := by
  have h := refSkip l hl l.length 0 (by omega) (by omega)
  rw [List.drop_zero] at h
  exact h
theorem refBinLoop (l : List Int) (hb : Bytes l) (hl : l.length < 9223372036854775807) : ∀ (d i : Nat) (n : Int), l.length - i = d → i ≤ l.length →
    Ev (fun k => mudlarkref01_Binary.l0 k l n (i : Int)) (binLoop n (l.drop i))
  | 0, i, n, hd, hi => by
    have e : i = l.length := by omega
    subst e
    rw [List.drop_length]
    refine Ev.step (f := fun _ => some (binLoop n [])) (fun k => ?_) (Ev.now _)
    simp only [mudlarkref01_Binary.l0, binLoop, binEnd]
    rw [if_neg (by omega)]
    split
    · rfl
    · split <;> rfl
  | d + 1, i, n, hd, hi => by
    have hlt : i < l.length := by omega
    have hxr := hb l[i] (List.getElem_mem _)
    have er : rd l (i : Int) = l[i] := by simp [rd, hlt]
    have ed : l.drop i = l[i] :: l.drop (i + 1) := List.drop_eq_getElem_cons hlt
    rw [ed, binLoop]
    by_cases h1 : n > 18014398509481984
    · rw [if_pos h1]
      refine Ev.step (f := fun _ => some (0, false)) (fun k => ?_) (Ev.now _)
      simp only [mudlarkref01_Binary.l0]
      rw [if_pos (by omega), if_pos h1]
    · rw [if_neg h1]
      by_cases h2 : n < -18014398509481985
      · rw [if_pos h2]
        refine Ev.step (f := fun _ => some (0, false)) (fun k => ?_) (Ev.now _)
        simp only [mudlarkref01_Binary.l0]
        rw [if_pos (by omega), if_neg h1, if_pos h2]
      · rw [if_neg h2]
        have ih := refBinLoop l hb hl d (i + 1) (n * 256 + l[i]) (by omega) (by omega)
        refine Ev.step (fun k => ?_) ih
        simp only [mudlarkref01_Binary.l0]
        rw [if_pos (by omega), if_neg h1, if_neg h2, if_pos (by omega), er, next_i i (by omega), wrap64_id (256 * n) (by omega) (by omega), wrap64_id l[i] (by omega) (by omega), wrap64_id _ (by omega) (by omega), Int.mul_comm 256 n]
theorem RefBinary_eq (l : List Int) (hb : Bytes l) (hl : l.length < 9223372036854775807) : Ev (fun k => mudlarkref01_Binary.f k l) (binF l) := by
  match l, hb, hl with
  | [], _, _ =>
    have hn : Ev (fun k => mudlarkref01_Binary.j0 k [] true) ((0 : Int), false) := Ev.step (f := fun _ => some ((0 : Int), false)) (fun k => by simp only [mudlarkref01_Binary.j0, if_true]) (Ev.now _)
    refine Ev.congr (fun k => ?_) hn
    unfold mudlarkref01_Binary.f; rw [if_pos (by simp)]
  | c :: r, hb, hl =>
    have hc := hb c (List.mem_cons_self ..)
    have e0 : rd (c :: r) 0 = c := by simp [rd]
    refine Ev.congr (f := fun k => mudlarkref01_Binary.j0 k (c :: r) (decide (c < 128))) (fun k => ?_) ?_
    · unfold mudlarkref01_Binary.f; rw [if_neg (by simp only [List.length_cons]; omega), if_pos (by simp only [List.length_cons]; omega), e0]
    · show Ev _ (if c < 128 then (0, false) else binLoop (binTop c) r)
      by_cases h : c < 128
      · rw [if_pos h, decide_eq_true h]
        refine Ev.step (f := fun _ => some ((0 : Int), false)) (fun k => ?_) (Ev.now _)
        simp only [mudlarkref01_Binary.j0, if_true]
      · rw [if_neg h, decide_eq_false h]
        have hL := refBinLoop (c :: r) hb hl ((c :: r).length - 1) 1 (binTop c) rfl (by simp only [List.length_cons]; omega)
        have hj : Ev (fun k => mudlarkref01_Binary.j1 k (c :: r) (binTop c)) (binLoop (binTop c) r) := by
          refine Ev.step (fun k => ?_) hL
          simp only [mudlarkref01_Binary.j1]
          rfl
        refine Ev.step (fun k => ?_) hj
        simp only [mudlarkref01_Binary.j0]
        rw [if_neg (by simp), if_pos (by simp only [List.length_cons]; omega), e0, wrap64_id c (by omega) (by omega), wrap64_id (c - 128) (by omega) (by omega), wrap64_id (c - 128 - 128) (by omega) (by omega)]
        unfold binTop
        by_cases h3 : c < 192
        · rw [if_neg (by omega), if_pos h3]
        · rw [if_pos (by omega), if_neg h3, show c - 128 - 128 = c - 256 by omega]
theorem RefParse_eq (l : List Int) (hb : Bytes l) (hl : l.length < 9223372036854775807) : Ev (fun k => mudlarkref01_Parse.f k l) (parseF l) := by
  have hyes : Ev (fun k => mudlarkref01_Parse.j0 k l true) (binF l) := by
    refine Ev.step (f := fun k => (mudlarkref01_Binary.f k l).bind fun t => some (t.1, t.2)) (fun k => by simp only [mudlarkref01_Parse.j0, if_true]) ?_
    exact Ev.bind (RefBinary_eq l hb hl) (Ev.now _)
  have hno : Ev (fun k => mudlarkref01_Parse.j0 k l false) (octF l) := by
    refine Ev.step (f := fun k => (mudlarkref01_Octal.f k l).bind fun t => some (t.1, t.2)) (fun k => ?_) ?_
    · simp only [mudlarkref01_Parse.j0]
      rw [if_neg (by simp)]
    · exact Ev.bind (RefOctal_eq l hl) (Ev.now _)
  unfold parseF
  by_cases h : (l.length : Int) > 0
  · by_cases h2 : rd l 0 ≥ 128
    · rw [if_pos ⟨h, h2⟩]
      refine Ev.congr (fun k => ?_) hyes
      unfold mudlarkref01_Parse.f
      rw [if_pos h, if_pos h, decide_eq_true h2]
    · rw [if_neg (fun q => h2 q.2)]
      refine Ev.congr (fun k => ?_) hno
      unfold mudlarkref01_Parse.f
      rw [if_pos h, if_pos h, decide_eq_false h2]
  · rw [if_neg (fun q => h q.1)]
    refine Ev.congr (fun k => ?_) hno
    unfold mudlarkref01_Parse.f
    rw [if_neg h]
end Go.Proofs.YtlnbkmlidmgbaaaDoor.P
