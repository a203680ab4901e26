/- Numbers of fields: what the printed functions of this chapter come to (digits). No conditions. -/
import Derived.Test.YtnhaicihkmcabaaDoorHOct
import Derived.Test.YtnhaicihkmcabaaDoorHKnown
import Derived.Test.YtnhaicihkmcabaaDoorPx1
import Derived.Test.YtnhaicihkmcabaaDoorPx2
import Derived.Laws.BitsLemmas
namespace Go.Proofs.YtnhaicihkmcabaaDoor.P
open Go.RowKit Go.Shelf Go.Lib Go.Proofs.YtnhaicihkmcabaaDoorW.PrintWords Go.Proofs.YtnhaicihkmcabaaDoorW.PrintLast Go.Proofs.YtnhaicihkmcabaaDoorW.PrintMore
set_option linter.unusedVariables false
set_option linter.unusedSimpArgs false

def digs : Nat → Int → List Int
  | 0, _ => []
  | m + 1, n => digs m (n / 8) ++ [48 + n % 8]
theorem digs_length : ∀ (m : Nat) (n : Int), (digs m n).length = m
  | 0, _ => rfl
  | m + 1, n => by simp [digs, digs_length m]
theorem digs_bytes : ∀ (m : Nat) (n : Int), Bytes (digs m n)
  | 0, _ => by simp [digs, Bytes]
  | m + 1, n => fun x hx => by
    simp only [digs, List.mem_append, List.mem_singleton] at hx
    rcases hx with hx | rfl
    · exact digs_bytes m _ x hx
    · omega
theorem wrap64_id (x : Int) (h0 : -9223372036854775808 ≤ x) (h1 : x ≤ 9223372036854775807) : wrap64 x = x := by
  unfold wrap64
  omega
theorem wraps_i64 : ∀ n : Int, 0 ≤ n → n < 2 ^ 63 → IntKind.i64.wrap n = n := fun n h0 h1 => by
  have e : (2 : Int) ^ 63 = 9223372036854775808 := by decide
  rw [IntKind.wrap_i64]
  omega
theorem and7 (n : Int) (h : 0 ≤ n) (h1 : n ≤ 4611686018427387904) : Go.bits .and .i64 n 7 = n % 8 := by
  have e : (2 : Int) ^ 63 = 9223372036854775808 := by decide
  exact bits_mask .i64 63 (by decide) wraps_i64 3 (by decide) n h (by omega)
theorem set_at_end (m : Nat) (tail : List Int) (v : Int) : (List.replicate (m + 1) 0 ++ tail).set m v = List.replicate m 0 ++ (v :: tail) := by
  rw [List.replicate_succ', List.append_assoc, List.set_append_right m v (by simp)]
  simp
theorem putLoop (size : Nat) (hs : 2 ≤ size) (hs2 : size ≤ 32) : ∀ (d i : Nat) (n : Int) (tail : List Int), size - 1 - i = d → i ≤ size - 1 → 0 ≤ n → n ≤ 4611686018427387904 → tail.length = i + 1 →
    Ev (fun k => num_PutOctal.l0 k n (size : Int) (List.replicate d 0 ++ tail) ((size - 1 : Nat) : Int) (i : Int)) (if n / 8 ^ d > 0 then ([], false) else (digs d n ++ tail, true))
  | 0, i, n, tail, hd, hi, h0, h1, ht => by
    refine Ev.step (f := fun _ => some (if n / 8 ^ 0 > 0 then ([], false) else (digs 0 n ++ tail, true))) (fun k => ?_) (Ev.now _)
    simp only [num_PutOctal.l0]
    rw [if_neg (by omega)]
    simp only [Int.pow_zero, Int.ediv_one, digs, List.nil_append, List.replicate_zero]
    split <;> rfl
  | d + 1, i, n, tail, hd, hi, h0, h1, ht => by
    have ih := putLoop size hs hs2 d (i + 1) (n / 8) ((48 + n % 8) :: tail) (by omega) (by omega) (by omega) (by omega) (by simp [ht])
    have e1 : wrap64 ((size : Int) - 2) = (size : Int) - 2 := wrap64_id _ (by omega) (by omega)
    have e2 : wrap64 ((size : Int) - 2 - (i : Int)) = (d : Int) := by rw [wrap64_id _ (by omega) (by omega)]; omega
    have e3 : wrap64 ((i : Int) + 1) = ((i + 1 : Nat) : Int) := by rw [wrap64_id _ (by omega) (by omega)]; push_cast; rfl
    have e4 : ((48 + (n % 8) % 256) % 256 : Int) = 48 + n % 8 := by omega
    have e5 : (if n / 8 ^ (d + 1) > 0 then (([], false) : List Int × Bool) else (digs (d + 1) n ++ tail, true)) = (if n / 8 / 8 ^ d > 0 then ([], false) else (digs d (n / 8) ++ ((48 + n % 8) :: tail), true)) := by
      rw [show n / 8 / 8 ^ d = n / 8 ^ (d + 1) by rw [Int.pow_succ', Int.ediv_ediv_of_nonneg (by omega)]]
      simp only [digs, List.append_assoc, List.singleton_append]
    rw [e5]
    refine Ev.step (fun k => ?_) ih
    simp only [num_PutOctal.l0]
    rw [if_pos (by omega), e1, e2, if_pos (by omega), if_pos (by simp; omega), e3, and7 n h0 h1, e4, Int.toNat_natCast, set_at_end]
theorem PutOctal_eq (n : Int) (size : Nat) (hs : 2 ≤ size) (hs2 : size ≤ 32) (h0 : 0 ≤ n) (h1 : n ≤ 4611686018427387904) :
    Ev (fun k => num_PutOctal.f k n (size : Int)) (if n / 8 ^ (size - 1) > 0 then ([], false) else (digs (size - 1) n ++ [0], true)) := by
  have h := putLoop size hs hs2 (size - 1) 0 n [0] (by omega) (by omega) h0 h1 rfl
  have e : List.replicate (size - 1) (0 : Int) ++ [0] = List.replicate size 0 := by
    rw [← List.replicate_succ']; congr 1; omega
  rw [e] at h
  have hj : Ev (fun k => num_PutOctal.j0 k n (size : Int) false) (if n / 8 ^ (size - 1) > 0 then ([], false) else (digs (size - 1) n ++ [0], true)) := by
    refine Ev.step (fun k => ?_) h
    simp only [num_PutOctal.j0]
    rw [if_neg (by simp), if_pos (by omega), if_pos (by omega), Int.toNat_natCast, wrap64_id _ (by omega) (by omega)]
    congr 1
    omega
  refine Ev.congr (fun k => ?_) hj
  unfold num_PutOctal.f num_wide.f
  rw [if_pos (by omega), Option.bind_some, show decide ((size : Int) ≤ 32) = true from decide_eq_true (by omega), if_pos rfl, if_neg (by omega), show decide (n > 4611686018427387904) = false from decide_eq_false (by omega)]
theorem rd_at (l : List Int) (i : Nat) (h : i < l.length) : rd l (i : Int) = l[i] := by simp [rd, h]
theorem wf_u8 {x : Int} (h : (Lit.int .u8 x).wf = true) : 0 ≤ x ∧ x < 256 := by
  simp [Lit.wf, IntKind.min, IntKind.max, IntKind.signed, IntKind.bits] at h
  omega
theorem wf_bytes {l : List Int} (h : ∀ x ∈ l, (Lit.int .u8 x).wf = true) : Bytes l := fun x hx => wf_u8 (h x hx)
theorem octLoop_digs : ∀ (m : Nat) (n acc : Int) (rest : List Int), 0 ≤ n → n < 8 ^ m → 0 ≤ acc → acc * 8 ^ m + n ≤ 4611686018427387904 → octLoop (digs m n ++ rest) acc = octLoop rest (acc * 8 ^ m + n)
  | 0, n, acc, rest, h0, h1, h2, h3 => by
    have : n = 0 := by simp at h1; omega
    subst this
    simp [digs]
  | m + 1, n, acc, rest, h0, h1, h2, h3 => by
    have e8 : (8 : Int) ^ (m + 1) = 8 * 8 ^ m := by rw [Int.pow_succ']
    have hp : (0 : Int) < 8 ^ m := Int.pow_pos (by omega)
    rw [e8] at h1 h3
    have hq : acc * (8 * 8 ^ m) = 8 * (acc * 8 ^ m) := by rw [Int.mul_left_comm]
    rw [hq] at h3
    have hnn : 0 ≤ acc * 8 ^ m := Int.mul_nonneg h2 (Int.le_of_lt hp)
    have hdiv : n / 8 < 8 ^ m := by omega
    have ih := octLoop_digs m (n / 8) acc ([48 + n % 8] ++ rest) (by omega) hdiv h2 (by omega)
    simp only [digs, List.append_assoc]
    rw [ih, List.singleton_append, octLoop]
    rw [if_pos (by omega), if_neg (by omega), e8, hq]
    congr 1
    omega
theorem octF_digs (m : Nat) (n : Int) (h0 : 0 ≤ n) (hm : 0 < m) (h1 : n < 8 ^ m) (h2 : n ≤ 4611686018427387904) (rest : List Int) (hr : rest.all blankB = true) : octF (digs m n ++ rest) = (n, true) := by
  unfold octF
  have hne : digs m n ++ rest ≠ [] := by
    intro e
    have := congrArg List.length e
    rw [List.length_append, digs_length] at this
    simp at this
    omega
  have hhead : (digs m n ++ rest).dropWhile (fun x => decide (x = 32)) = digs m n ++ rest := by
    cases m with
    | zero => omega
    | succ m =>
      cases e : digs (m + 1) n with
      | nil => have := digs_length (m + 1) n; rw [e] at this; simp at this
      | cons c t =>
        have hc : 48 ≤ c := by
          have : ∀ (m : Nat) (n : Int), ∀ x ∈ digs m n, 48 ≤ x := by
            intro m
            induction m with
            | zero => intro n x hx; simp [digs] at hx
            | succ m ih =>
              intro n x hx
              simp only [digs, List.mem_append, List.mem_singleton] at hx
              rcases hx with hx | rfl
              · exact ih _ x hx
              · omega
          exact this (m + 1) n c (by rw [e]; simp)
        rw [List.cons_append, List.dropWhile_cons_of_neg]
        simp
        omega
  rw [hhead, octLoop_digs m n 0 rest h0 h1 (by omega) (by omega), Int.zero_mul, Int.zero_add]
  rw [octLoop_other rest n]
  · simp only [octRes, hr, if_true]
  · cases rest with
    | nil => exact .inl rfl
    | cons c t =>
      rw [List.all_cons, Bool.and_eq_true] at hr
      have hc := hr.1
      unfold blankB at hc
      simp at hc
      refine .inr (.inl ?_)
      show c < 48
      omega
end Go.Proofs.YtnhaicihkmcabaaDoor.P
