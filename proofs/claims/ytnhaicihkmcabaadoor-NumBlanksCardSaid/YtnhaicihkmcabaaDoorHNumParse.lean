/- Numbers of fields: what is put is parsed as it was. No conditions. -/
import Derived.Test.YtnhaicihkmcabaaDoorHNumSay
import Derived.Test.YtnhaicihkmcabaaDoorPx7
namespace Go.Proofs.YtnhaicihkmcabaaDoor.P
open Go.RowKit Go.Shelf Go.Lib Go.Proofs.YtnhaicihkmcabaaDoorW.PrintWords Go.Proofs.YtnhaicihkmcabaaDoorW.PrintLast Go.Proofs.YtnhaicihkmcabaaDoorW.PrintMore
set_option linter.unusedVariables false
set_option linter.unusedSimpArgs false

def parseF (l : List Int) : Int × Bool := if (l.length : Int) > 0 ∧ rd l 0 ≥ 128 then binF l else octF l
theorem Octal_eq (l : List Int) (hb : Bytes l) : num_Octal.f l = some (octF l) := by
  unfold num_Octal.f
  rw [if_pos ((bytesB_iff l).2 hb)]
theorem Parse_eq (l : List Int) (hb : Bytes l) (hl : l.length < 9223372036854775807) : Ev (fun k => num_Parse.f k l) (parseF l) := by
  have hyes : Ev (fun k => num_Parse.j0 k l true) (binF l) := by
    refine Ev.step (f := fun k => (num_Binary.f k l).bind fun t => some (t.1, t.2)) (fun k => by simp only [num_Parse.j0, if_true]) ?_
    exact Ev.bind (Binary_eq l hb hl) (Ev.now _)
  have hno : Ev (fun k => num_Parse.j0 k l false) (octF l) := by
    refine Ev.step (f := fun _ => some (octF l)) (fun k => ?_) (Ev.now _)
    simp only [num_Parse.j0]
    rw [if_neg (by simp), Octal_eq l hb, Option.bind_some]
  unfold parseF
  by_cases h : (l.length : Int) > 0
  · by_cases h2 : rd l 0 ≥ 128
    · rw [if_pos ⟨h, h2⟩]
      refine Ev.congr (fun k => ?_) hyes
      unfold num_Parse.f
      rw [if_pos h, if_pos h, decide_eq_true h2]
    · rw [if_neg (fun q => h2 q.2)]
      refine Ev.congr (fun k => ?_) hno
      unfold num_Parse.f
      rw [if_pos h, if_pos h, decide_eq_false h2]
  · rw [if_neg (fun q => h q.1)]
    refine Ev.congr (fun k => ?_) hno
    unfold num_Parse.f
    rw [if_neg h]
theorem digs_small : ∀ (m : Nat) (n : Int), ∀ x ∈ digs m n, 48 ≤ x ∧ x ≤ 55
  | 0, n, x, hx => by simp [digs] at hx
  | m + 1, n, x, hx => by
    simp only [digs, List.mem_append, List.mem_singleton] at hx
    rcases hx with hx | rfl
    · exact digs_small m _ x hx
    · omega
theorem lt_of_room (x : Int) (s : Nat) (h : octRoom x s) : x < 8 ^ s := by
  have h2 := h.2
  have hp := p8 s
  rcases Int.lt_or_le x (8 ^ s) with h3 | h3
  · exact h3
  · exfalso
    apply h2
    have : (1 : Int) ≤ x / 8 ^ s := by
      rw [Int.le_ediv_iff_mul_le hp]
      omega
    omega
theorem put_bytes_oct (x : Int) (s : Nat) : Bytes (digs s x ++ [0]) := fun y hy => by
  rcases List.mem_append.1 hy with h | h
  · have := digs_small s x y h; omega
  · rw [List.mem_singleton.1 h]; omega
theorem parse_oct (x : Int) (s : Nat) (h : octRoom x (s + 1)) (h1 : x ≤ 4611686018427387904) : parseF (digs (s + 1) x ++ [0]) = (x, true) := by
  unfold parseF
  rw [if_neg]
  · exact octF_digs (s + 1) x h.1 (by omega) (lt_of_room x _ h) h1 [0] rfl
  · intro q
    have q2 := q.2
    cases e : digs (s + 1) x with
    | nil => have := digs_length (s + 1) x; rw [e] at this; simp at this
    | cons c t =>
      have hc := digs_small (s + 1) x c (by rw [e]; exact List.mem_cons_self ..)
      rw [e] at q2
      have : rd (c :: t ++ [0]) 0 = c := rfl
      omega
theorem parse_bin (x : Int) (s : Nat) (h : fits x s) : parseF (raise128 (bdigs (s + 1) x)) = (x, true) := by
  have hb := binF_fits x s h
  unfold parseF
  rw [if_pos]
  · exact hb
  · rw [bdigs_top]
    refine ⟨?_, ?_⟩
    · simp only [raise128, List.length_cons]; omega
    · show x / 256 ^ s % 256 % 128 + 128 ≥ 128
      omega
theorem put_bytes (x : Int) (s : Nat) (hs : s + 2 ≤ 32) (h1 : x ≤ 4611686018427387904) : Bytes (putF x ((s + 2 : Nat) : Int)).1 := by
  rw [put_at x s hs h1]
  split
  · exact put_bytes_oct x (s + 1)
  · split
    · exact raise_bytes (bdigs_bytes _ _)
    · exact fun y hy => by simp at hy
theorem put_short (x : Int) (s : Nat) (hs : s + 2 ≤ 32) (h1 : x ≤ 4611686018427387904) : (putF x ((s + 2 : Nat) : Int)).1.length ≤ 32 := by
  rw [put_at x s hs h1]
  split
  · rw [digs_len]; omega
  · split
    · rw [raise_len]; omega
    · simp
theorem put_parse (x : Int) (s : Nat) (hs : s + 2 ≤ 32) (h1 : x ≤ 4611686018427387904) (h : (putF x ((s + 2 : Nat) : Int)).2 = true) :
    (putF x ((s + 2 : Nat) : Int)).1.length = s + 2 ∧ parseF (putF x ((s + 2 : Nat) : Int)).1 = (x, true) := by
  rw [put_at x s hs h1] at h ⊢
  by_cases hO : octRoom x (s + 1)
  · rw [if_pos hO] at h ⊢
    exact ⟨digs_len s x, parse_oct x s hO h1⟩
  · rw [if_neg hO] at h ⊢
    by_cases hB : fits x (s + 1)
    · rw [if_pos hB] at h ⊢
      exact ⟨raise_len _ _, parse_bin x (s + 1) hB⟩
    · rw [if_neg hB] at h
      cases h
theorem put_none (x : Int) (s : Nat) (hs : s + 2 ≤ 32) (h1 : x ≤ 4611686018427387904) (h : ¬ (putF x ((s + 2 : Nat) : Int)).2 = true) : (putF x ((s + 2 : Nat) : Int)).1 = [] := by
  rw [put_at x s hs h1] at h ⊢
  by_cases hO : octRoom x (s + 1)
  · rw [if_pos hO] at h; exact absurd rfl h
  · rw [if_neg hO] at h ⊢
    by_cases hB : fits x (s + 1)
    · rw [if_pos hB] at h; exact absurd rfl h
    · rw [if_neg hB]
theorem put_twelve (x : Int) (h0 : -2305843009213693952 ≤ x) (h1 : x ≤ 2305843009213693952) : (putF x ((10 + 2 : Nat) : Int)).2 = true := by
  rw [put_at x 10 (by omega) (by omega)]
  split
  · rfl
  · rw [if_pos]
    refine ⟨by omega, by omega, ?_, ?_⟩
    · rw [Int.le_ediv_iff_mul_le (p256 _)]; have : (256 : Int) ^ (10 + 1) = 309485009821345068724781056 := by decide
      omega
    · rw [Int.ediv_lt_iff_lt_mul (p256 _)]; have : (256 : Int) ^ (10 + 1) = 309485009821345068724781056 := by decide
      omega
end Go.Proofs.YtnhaicihkmcabaaDoor.P
