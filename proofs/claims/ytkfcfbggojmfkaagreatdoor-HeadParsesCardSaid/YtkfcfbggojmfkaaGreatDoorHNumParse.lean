/- Numbers of fields: what the printed functions of this chapter come to (digits). No conditions. Numbers of fields: bits. What the printed functions come to. No conditions. Numbers of fields: which numbers have room. Plain arithmetic. No conditions. Numbers of fields: what is put, at a width of two to 32. No conditions. Numbers of fields: what is put is parsed as it was. No conditions. -/
import Derived.Test.YtkfcfbggojmfkaaGreatDoorHOct
import Derived.Test.YtkfcfbggojmfkaaGreatDoorPx2
import Derived.Laws.BitsLemmas
section
namespace Go.Proofs.YtkfcfbggojmfkaaGreatDoor.P
open Go.RowKit Go.Shelf Go.Lib Go.Proofs.YtkfcfbggojmfkaaGreatDoorW.PrintWords Go.Proofs.YtkfcfbggojmfkaaGreatDoorW.PrintLast Go.Proofs.YtkfcfbggojmfkaaGreatDoorW.PrintMore
set_option linter.unusedVariables false
set_option linter.unusedSimpArgs false

def digs : Nat → Int → List Int
 | 0, _ => []
 | m + 1, n => digs m (n / 8) ++ [48 + n % 8]
theorem digs_length : ∀ (m : Nat) (n : Int), (digs m n).length = m
 | 0, _ => rfl
 | m + 1, n => by simp [digs, digs_length m]
theorem digs_bytes : ∀ (m : Nat) (n : Int), Bytes (digs m n)
 | 0, _ => by simp [digs, Bytes]
 | m + 1, n => fun x hx => by
  simp only [digs, List.mem_append, List.mem_singleton] at hx
  rcases hx with hx | rfl
  ·exact digs_bytes m _ x hx
  ·omega
theorem wrap64_id (x : Int) (h0 : -9223372036854775808 ≤ x) (h1 : x ≤ 9223372036854775807) : wrap64 x = x := by
 unfold wrap64
 omega
theorem wraps_i64 : ∀ n : Int, 0 ≤ n → n < 2 ^ 63 → IntKind.i64.wrap n = n := fun n h0 h1 => by
 have e : (2 : Int) ^ 63 = 9223372036854775808 := by decide
 rw [IntKind.wrap_i64]
 omega
theorem and7 (n : Int) (h : 0 ≤ n) (h1 : n ≤ 4611686018427387904) : Go.bits .and .i64 n 7 = n % 8 := by
 have e : (2 : Int) ^ 63 = 9223372036854775808 := by decide
 exact bits_mask .i64 63 (by decide) wraps_i64 3 (by decide) n h (by omega)
theorem set_at_end (m : Nat) (tail : List Int) (v : Int) : (List.replicate (m + 1) 0 ++ tail).set m v = List.replicate m 0 ++ (v :: tail) := by
 rw [List.replicate_succ', List.append_assoc, List.set_append_right m v (by simp)]
 simp
theorem putLoop (size : Nat) (hs : 2 ≤ size) (hs2 : size ≤ 32) : ∀ (d i : Nat) (n : Int) (tail : List Int), size - 1 - i = d → i ≤ size - 1 → 0 ≤ n → n ≤ 4611686018427387904 → tail.length = i + 1 →
  Ev (fun k => num_PutOctal.l0 k n (size : Int) (List.replicate d 0 ++ tail) ((size - 1 : Nat) : Int) (i : Int)) (if n / 8 ^ d > 0 then ([], false) else (digs d n ++ tail, true))
 | 0, i, n, tail, hd, hi, h0, h1, ht => by
  refine Ev.step (f := fun _ => some (if n / 8 ^ 0 > 0 then ([], false) else (digs 0 n ++ tail, true))) (fun k => ?_) (Ev.now _)
  simp only [num_PutOctal.l0]
  rw [if_neg (by omega)]
  simp only [Int.pow_zero, Int.ediv_one, digs, List.nil_append, List.replicate_zero]
  split <;> rfl
 | d + 1, i, n, tail, hd, hi, h0, h1, ht => by
  have ih := putLoop size hs hs2 d (i + 1) (n / 8) ((48 + n % 8) :: tail) (by omega) (by omega) (by omega) (by omega) (by simp [ht])
  have e1 : wrap64 ((size : Int) - 2) = (size : Int) - 2 := wrap64_id _ (by omega) (by omega)
  have e2 : wrap64 ((size : Int) - 2 - (i : Int)) = (d : Int) := by rw [wrap64_id _ (by omega) (by omega)]; omega
  have e3 : wrap64 ((i : Int) + 1) = ((i + 1 : Nat) : Int) := by rw [wrap64_id _ (by omega) (by omega)]; push_cast; rfl
  have e4 : ((48 + (n % 8) % 256) % 256 : Int) = 48 + n % 8 := by omega
  have e5 : (if n / 8 ^ (d + 1) > 0 then (([], false) : List Int × Bool) else (digs (d + 1) n ++ tail, true)) = (if n / 8 / 8 ^ d > 0 then ([], false) else (digs d (n / 8) ++ ((48 + n % 8) :: tail), true)) := by
   rw [show n / 8 / 8 ^ d = n / 8 ^ (d + 1) by rw [Int.pow_succ', Int.ediv_ediv_of_nonneg (by omega)]]
   simp only [digs, List.append_assoc, List.singleton_append]
  rw [e5]
  refine Ev.step (fun k => ?_) ih
  simp only [num_PutOctal.l0]
  rw [if_pos (by omega), e1, e2, if_pos (by omega), if_pos (by simp; omega), e3, and7 n h0 h1, e4, Int.toNat_natCast, set_at_end]
theorem PutOctal_eq (n : Int) (size : Nat) (hs : 2 ≤ size) (hs2 : size ≤ 32) (h0 : 0 ≤ n) (h1 : n ≤ 4611686018427387904) :
  Ev (fun k => num_PutOctal.f k n (size : Int)) (if n / 8 ^ (size - 1) > 0 then ([], false) else (digs (size - 1) n ++ [0], true)) := by
 have h := putLoop size hs hs2 (size - 1) 0 n [0] (by omega) (by omega) h0 h1 rfl
 have e : List.replicate (size - 1) (0 : Int) ++ [0] = List.replicate size 0 := by
  rw [← List.replicate_succ']; congr 1; omega
 rw [e] at h
 have hj : Ev (fun k => num_PutOctal.j0 k n (size : Int) false) (if n / 8 ^ (size - 1) > 0 then ([], false) else (digs (size - 1) n ++ [0], true)) := by
  refine Ev.step (fun k => ?_) h
  simp only [num_PutOctal.j0]
  rw [if_neg (by simp), if_pos (by omega), if_pos (by omega), Int.toNat_natCast, wrap64_id _ (by omega) (by omega)]
  congr 1
  omega
 refine Ev.congr (fun k => ?_) hj
 unfold num_PutOctal.f num_wide.f
 rw [if_pos (by omega), Option.bind_some, show decide ((size : Int) ≤ 32) = true from decide_eq_true (by omega), if_pos rfl, if_neg (by omega), show decide (n > 4611686018427387904) = false from decide_eq_false (by omega)]
theorem rd_at (l : List Int) (i : Nat) (h : i < l.length) : rd l (i : Int) = l[i] := by simp [rd, h]
theorem octLoop_digs : ∀ (m : Nat) (n acc : Int) (rest : List Int), 0 ≤ n → n < 8 ^ m → 0 ≤ acc → acc * 8 ^ m + n ≤ 4611686018427387904 → octLoop (digs m n ++ rest) acc = octLoop rest (acc * 8 ^ m + n)
 | 0, n, acc, rest, h0, h1, h2, h3 => by
  have : n = 0 := by simp at h1; omega
  subst this
  simp [digs]
 | m + 1, n, acc, rest, h0, h1, h2, h3 => by
  have e8 : (8 : Int) ^ (m + 1) = 8 * 8 ^ m := by rw [Int.pow_succ']
  have hp : (0 : Int) < 8 ^ m := Int.pow_pos (by omega)
  rw [e8] at h1 h3
  have hq : acc * (8 * 8 ^ m) = 8 * (acc * 8 ^ m) := by rw [Int.mul_left_comm]
  rw [hq] at h3
  have hnn : 0 ≤ acc * 8 ^ m := Int.mul_nonneg h2 (Int.le_of_lt hp)
  have hdiv : n / 8 < 8 ^ m := by omega
  have ih := octLoop_digs m (n / 8) acc ([48 + n % 8] ++ rest) (by omega) hdiv h2 (by omega)
  simp only [digs, List.append_assoc]
  rw [ih, List.singleton_append, octLoop]
  rw [if_pos (by omega), if_neg (by omega), e8, hq]
  congr 1
  omega
theorem octF_digs (m : Nat) (n : Int) (h0 : 0 ≤ n) (hm : 0 < m) (h1 : n < 8 ^ m) (h2 : n ≤ 4611686018427387904) (rest : List Int) (hr : rest.all blankB = true) : octF (digs m n ++ rest) = (n, true) := by
 unfold octF
 have hne : digs m n ++ rest ≠ [] := by
  intro e
  have := congrArg List.length e
  rw [List.length_append, digs_length] at this
  simp at this
  omega
 have hhead : (digs m n ++ rest).dropWhile (fun x => decide (x = 32)) = digs m n ++ rest := by
  cases m with
  | zero => omega
  | succ m =>
   cases e : digs (m + 1) n with
   | nil => have := digs_length (m + 1) n; rw [e] at this; simp at this
   | cons c t =>
    have hc : 48 ≤ c := by
     have : ∀ (m : Nat) (n : Int), ∀ x ∈ digs m n, 48 ≤ x := by
      intro m
      induction m with
      | zero => intro n x hx; simp [digs] at hx
      | succ m ih =>
       intro n x hx
       simp only [digs, List.mem_append, List.mem_singleton] at hx
       rcases hx with hx | rfl
       ·exact ih _ x hx
       ·omega
     exact this (m + 1) n c (by rw [e]; simp)
    rw [List.cons_append, List.dropWhile_cons_of_neg]
    simp
    omega
 rw [hhead, octLoop_digs m n 0 rest h0 h1 (by omega) (by omega), Int.zero_mul, Int.zero_add]
 rw [octLoop_other rest n]
 ·simp only [octRes, hr, if_true]
 ·cases rest with
  | nil => exact .inl rfl
  | cons c t =>
   rw [List.all_cons, Bool.and_eq_true] at hr
   have hc := hr.1
   unfold blankB at hc
   simp at hc
   refine .inr (.inl ?_)
   show c < 48
   omega
end Go.Proofs.YtkfcfbggojmfkaaGreatDoor.P
end

section
namespace Go.Proofs.YtkfcfbggojmfkaaGreatDoor.P
open Go.RowKit Go.Shelf Go.Lib Go.Proofs.YtkfcfbggojmfkaaGreatDoorW.PrintWords Go.Proofs.YtkfcfbggojmfkaaGreatDoorW.PrintLast Go.Proofs.YtkfcfbggojmfkaaGreatDoorW.PrintMore
set_option linter.unusedVariables false
set_option linter.unusedSimpArgs false

def binEnd (n : Int) : Int × Bool := if n > 4611686018427387904 then (0, false) else if n < -4611686018427387904 then (0, false) else (n, true)
def binLoop : Int → List Int → Int × Bool
 | n, [] => binEnd n
 | n, c :: l => if n > 18014398509481984 then (0, false) else if n < -18014398509481985 then (0, false) else binLoop (n * 256 + c) l
def binTop (c : Int) : Int := if c < 192 then c - 128 else c - 256
def binF : List Int → Int × Bool
 | [] => (0, false)
 | c :: r => if c < 128 then (0, false) else binLoop (binTop c) r

theorem top_u8 : ∀ c : Fin 256, wrap64 (Go.bits .andNot .u8 (c.val : Int) 192) = (c.val : Int) % 64 ∧ wrap64 (Go.bits .and .u8 (c.val : Int) 64) = (if (c.val : Int) % 128 < 64 then 0 else 64) ∧ Go.bits .or .u8 (c.val : Int) 128 = (c.val : Int) % 128 + 128 := by decide +kernel
theorem top_eq (c : Int) (h0 : 128 ≤ c) (h1 : c < 256) : wrap64 (wrap64 (Go.bits .andNot .u8 c 192) - wrap64 (Go.bits .and .u8 c 64)) = binTop c := by
 obtain ⟨m, rfl⟩ := Int.eq_ofNat_of_zero_le (show 0 ≤ c by omega)
 have h := top_u8 ⟨m, by omega⟩
 dsimp only at h
 rw [h.1, h.2.1]
 clear h
 unfold binTop
 rw [wrap64_id _ (by split <;> omega) (by split <;> omega)]
 split <;> split <;> omega
theorem or_128 (c : Int) (h0 : 0 ≤ c) (h1 : c < 256) : Go.bits .or .u8 c 128 = c % 128 + 128 := by
 obtain ⟨m, rfl⟩ := Int.eq_ofNat_of_zero_le h0
 exact (top_u8 ⟨m, by omega⟩).2.2
theorem or_byte (n c : Int) (h0 : -18014398509481985 ≤ n) (h1 : n ≤ 18014398509481984) (hc : 0 ≤ c) (hc1 : c < 256) : Go.bits .or .i64 (wrap64 (n * 256)) (wrap64 c) = n * 256 + c := by
 rw [wrap64_id _ (by omega) (by omega), wrap64_id c (by omega) (by omega)]
 obtain ⟨b, rfl⟩ := Int.eq_ofNat_of_zero_le hc
 have hN : ∃ a : Nat, ((n * 256 : Int) % 18446744073709551616) = ((a * 256 : Nat) : Int) ∧ a * 256 < 18446744073709551616 := by
  refine ⟨((n % 72057594037927936).toNat), ?_, ?_⟩ <;> omega
 obtain ⟨a, ha, hal⟩ := hN
 have hb : b < 256 := by omega
 have hor : a * 256 ||| b = a * 256 + b := by
  have := Nat.two_pow_add_eq_or_of_lt (i := 8) (show b < 2 ^ 8 by simpa using hb) a
  have e : (2 : Nat) ^ 8 = 256 := by decide
  rw [e, Nat.mul_comm] at this
  exact this.symm
 have hx : (BitVec.ofInt 64 (n * 256)).toNat = a * 256 := by
  rw [BitVec.toNat_ofInt]
  have e : ((2 ^ 64 : Nat) : Int) = 18446744073709551616 := by decide
  rw [e, ha]; exact Int.toNat_natCast _
 have hy : (BitVec.ofInt 64 (b : Int)).toNat = b := by
  rw [BitVec.ofInt_natCast, BitVec.toNat_ofNat]
  exact Nat.mod_eq_of_lt (by omega)
 show IntKind.i64.wrap (((BitVec.ofInt 64 (n * 256)) ||| (BitVec.ofInt 64 (b : Int))).toNat : Int) = n * 256 + (b : Int)
 rw [BitVec.toNat_or, hx, hy, hor, IntKind.wrap_i64]
 omega
theorem binLoop_eq (l : List Int) (hb : Bytes l) (hl : l.length < 9223372036854775807) : ∀ (d i : Nat) (n : Int), l.length - i = d → i ≤ l.length →
  Ev (fun k => num_Binary.l0 k n l (l.length : Int) (i : Int)) (binLoop n (l.drop i))
 | 0, i, n, hd, hi => by
  have e : i = l.length := by omega
  subst e
  rw [List.drop_length]
  refine Ev.step (f := fun _ => some (binLoop n [])) (fun k => ?_) (Ev.now _)
  simp only [num_Binary.l0, binLoop, binEnd]
  rw [if_neg (by omega)]
  split
  ·rfl
  ·split <;> rfl
 | d + 1, i, n, hd, hi => by
  have hlt : i < l.length := by omega
  have hxr := hb l[i] (List.getElem_mem _)
  have er : rd l (i : Int) = l[i] := by simp [rd, hlt]
  have ed : l.drop i = l[i] :: l.drop (i + 1) := List.drop_eq_getElem_cons hlt
  have ew : wrap64 ((i : Int) + 1) = ((i + 1 : Nat) : Int) := by rw [wrap64_id _ (by omega) (by omega)]; push_cast; rfl
  rw [ed, binLoop]
  by_cases h1 : n > 18014398509481984
  ·rw [if_pos h1]
   refine Ev.step (f := fun _ => some (0, false)) (fun k => ?_) (Ev.now _)
   simp only [num_Binary.l0]
   rw [if_pos (by omega), if_pos (by omega), if_pos (by omega), if_pos h1]
  ·rw [if_neg h1]
   by_cases h2 : n < -18014398509481985
   ·rw [if_pos h2]
    refine Ev.step (f := fun _ => some (0, false)) (fun k => ?_) (Ev.now _)
    simp only [num_Binary.l0]
    rw [if_pos (by omega), if_pos (by omega), if_pos (by omega), if_neg h1, if_pos h2]
   ·rw [if_neg h2]
    have ih := binLoop_eq l hb hl d (i + 1) (n * 256 + l[i]) (by omega) (by omega)
    refine Ev.step (fun k => ?_) ih
    simp only [num_Binary.l0]
    rw [if_pos (by omega), if_pos (by omega), if_pos (by omega), if_neg h1, if_neg h2, er, or_byte n l[i] (by omega) (by omega) hxr.1 hxr.2, ew]
theorem Binary_eq (l : List Int) (hb : Bytes l) (hl : l.length < 9223372036854775807) : Ev (fun k => num_Binary.f k l) (binF l) := by
 match l, hb, hl with
 | [], _, _ =>
  have hn : Ev (fun k => num_Binary.j0 k [] true) ((0 : Int), false) := Ev.step (f := fun _ => some ((0 : Int), false)) (fun k => by simp only [num_Binary.j0, if_true]) (Ev.now _)
  refine Ev.congr (fun k => ?_) hn
  unfold num_Binary.f; rw [if_pos (by simp)]
 | c :: r, hb, hl =>
  have hc := hb c (List.mem_cons_self ..)
  have e0 : rd (c :: r) 0 = c := by simp [rd]
  have hb' : Bytes r := fun x hx => hb x (List.mem_cons_of_mem _ hx)
  have hl' : r.length < 9223372036854775807 := by simp at hl; omega
  refine Ev.congr (f := fun k => num_Binary.j0 k (c :: r) (decide (c < 128))) (fun k => ?_) ?_
  ·unfold num_Binary.f; rw [if_neg (by simp only [List.length_cons]; omega), if_pos (by simp only [List.length_cons]; omega), e0]
  ·show Ev _ (if c < 128 then (0, false) else binLoop (binTop c) r)
   by_cases h : c < 128
   ·rw [if_pos h, decide_eq_true h]
    refine Ev.step (f := fun _ => some ((0 : Int), false)) (fun k => ?_) (Ev.now _)
    simp only [num_Binary.j0, if_true]
   ·rw [if_neg h, decide_eq_false h]
    have hL := binLoop_eq r hb' hl' r.length 0 (binTop c) (by omega) (by omega)
    rw [List.drop_zero] at hL
    refine Ev.step (fun k => ?_) hL
    simp only [num_Binary.j0]
    rw [if_neg (by simp), if_pos (by simp only [List.length_cons]; omega), if_pos (by simp only [List.length_cons]; omega), e0, top_eq c (by omega) hc.2]
    rfl

/-! ### the way back -/
def bdigs : Nat → Int → List Int
 | 0, _ => []
 | m + 1, n => bdigs m (n / 256) ++ [n % 256]
theorem bdigs_length : ∀ (m : Nat) (n : Int), (bdigs m n).length = m
 | 0, _ => rfl
 | m + 1, n => by simp [bdigs, bdigs_length m]
theorem bdigs_bytes : ∀ (m : Nat) (n : Int), Bytes (bdigs m n)
 | 0, _ => fun x hx => by simp [bdigs] at hx
 | m + 1, n => fun x hx => by
  rcases List.mem_append.1 hx with h | h
  ·exact bdigs_bytes m _ x h
  ·rw [List.mem_singleton.1 h]; omega
def raise128 : List Int → List Int
 | [] => []
 | c :: r => (c % 128 + 128) :: r
theorem raise_bytes {l : List Int} (h : Bytes l) : Bytes (raise128 l) := by
 match l, h with
 | [], _ => exact fun x hx => by simp [raise128] at hx
 | c :: r, h =>
  intro x hx
  rcases List.mem_cons.1 hx with rfl | hx
  ·omega
  ·exact h x (List.mem_cons_of_mem _ hx)
theorem raise_length (l : List Int) : (raise128 l).length = l.length := by cases l <;> rfl
def putBin (n : Int) (m : Nat) : List Int × Bool :=
 if (binF (raise128 (bdigs m n))).2 = true then (if (binF (raise128 (bdigs m n))).1 = n then (raise128 (bdigs m n), true) else ([], false)) else ([], false)

theorem putEnd (x0 x1 x7 x25 : Int) (size : Nat) (l : List Int) (hb : Bytes l) (hl : l.length = size) (hs : 2 ≤ size) (hs2 : size ≤ 32) (x26 : Int) (h : ¬ x26 < x25) :
  Ev (fun k => num_PutBinary.l0 k x0 x1 l x7 x25 x26) (if (binF (raise128 l)).2 = true then (if (binF (raise128 l)).1 = x0 then (raise128 l, true) else ([], false)) else ([], false)) := by
 match l, hb, hl with
 | [], _, hl => simp at hl; omega
 | c :: r, hb, hl =>
  have hc := hb c (List.mem_cons_self ..)
  have e0 : rd (c :: r) 0 = c := by simp [rd]
  have eo : Go.bits .or .u8 c 128 = c % 128 + 128 := or_128 c hc.1 hc.2
  have hB := Binary_eq (raise128 (c :: r)) (raise_bytes hb) (by rw [raise_length, hl]; omega)
  refine Ev.step (fun k => ?_) (Ev.bind (f := fun k t => if t.2 = true then (if t.1 = x0 then some (raise128 (c :: r), true) else some (([] : List Int), false)) else some (([] : List Int), false)) hB ?_)
  ·simp only [num_PutBinary.l0]
   rw [if_neg h, if_pos (by simp only [List.length_cons]; omega), e0, eo]
   rfl
  ·split
   ·split
    ·exact Ev.now _
    ·exact Ev.now _
   ·exact Ev.now _
theorem putBinLoop (x0 : Int) (size : Nat) (hs : 2 ≤ size) (hs2 : size ≤ 32) : ∀ (d i : Nat) (n : Int) (tail : List Int), size - i = d → i ≤ size → tail.length = i → Bytes tail →
  Ev (fun k => num_PutBinary.l0 k x0 (size : Int) (List.replicate d 0 ++ tail) n (size : Int) (i : Int)) (if (binF (raise128 (bdigs d n ++ tail))).2 = true then (if (binF (raise128 (bdigs d n ++ tail))).1 = x0 then (raise128 (bdigs d n ++ tail), true) else ([], false)) else ([], false))
 | 0, i, n, tail, hd, hi, ht, hb => by
  simp only [bdigs, List.nil_append, List.replicate_zero]
  exact putEnd x0 _ _ _ size tail hb (by omega) hs hs2 _ (by omega)
 | d + 1, i, n, tail, hd, hi, ht, hb => by
  have hb' : Bytes ((n % 256) :: tail) := fun x hx => by
   rcases List.mem_cons.1 hx with rfl | hx
   ·omega
   ·exact hb x hx
  have ih := putBinLoop x0 size hs hs2 d (i + 1) (n / 256) ((n % 256) :: tail) (by omega) (by omega) (by simp [ht]) hb'
  have e1 : wrap64 ((size : Int) - 1) = (size : Int) - 1 := wrap64_id _ (by omega) (by omega)
  have e2 : wrap64 ((size : Int) - 1 - (i : Int)) = (d : Int) := by rw [wrap64_id _ (by omega) (by omega)]; omega
  have e3 : wrap64 ((i : Int) + 1) = ((i + 1 : Nat) : Int) := by rw [wrap64_id _ (by omega) (by omega)]; push_cast; rfl
  have e5 : bdigs (d + 1) n ++ tail = bdigs d (n / 256) ++ ((n % 256) :: tail) := by simp only [bdigs, List.append_assoc, List.singleton_append]
  rw [e5]
  refine Ev.step (fun k => ?_) ih
  simp only [num_PutBinary.l0]
  rw [if_pos (by omega), e1, e2, if_pos (by omega), if_pos (by simp; omega), e3, Int.toNat_natCast, set_at_end]
def putBinF (n : Int) (size : Int) : List Int × Bool := if 2 ≤ size ∧ size ≤ 32 then putBin n size.toNat else ([], false)
theorem binEnd_range (n : Int) : (binEnd n).2 = true → -4611686018427387904 ≤ (binEnd n).1 ∧ (binEnd n).1 ≤ 4611686018427387904 := by
 unfold binEnd
 split
 ·intro h; cases h
 ·split
  ·intro h; cases h
  ·intro _; dsimp only; omega
theorem binLoop_range : ∀ (l : List Int) (n : Int), (binLoop n l).2 = true → -4611686018427387904 ≤ (binLoop n l).1 ∧ (binLoop n l).1 ≤ 4611686018427387904
 | [], n => binEnd_range n
 | c :: l, n => by
  unfold binLoop
  split
  ·intro h; cases h
  ·split
   ·intro h; cases h
   ·exact binLoop_range l _
theorem binF_range (l : List Int) : (binF l).2 = true → -4611686018427387904 ≤ (binF l).1 ∧ (binF l).1 ≤ 4611686018427387904 := by
 unfold binF
 split
 ·intro h; cases h
 ·split
  ·intro h; cases h
  ·exact binLoop_range _ _
theorem putBin_out (n : Int) (m : Nat) (h : n > 4611686018427387904 ∨ n < -4611686018427387904) : putBin n m = ([], false) := by
 unfold putBin
 split
 ·rename_i h1
  have := binF_range _ h1
  rw [if_neg (by omega)]
 ·rfl
theorem PutBinary_eq (n size : Int) : Ev (fun k => num_PutBinary.f k n size) (putBinF n size) := by
 have hno : Ev (fun k => num_PutBinary.j0 k n size true) (([], false) : List Int × Bool) := by
  refine Ev.step (f := fun _ => some (([] : List Int), false)) (fun k => ?_) (Ev.now _)
  simp only [num_PutBinary.j0, if_true]
 unfold putBinF
 by_cases hs : 2 ≤ size ∧ size ≤ 32
 ·rw [if_pos hs]
  obtain ⟨m, rfl⟩ := Int.eq_ofNat_of_zero_le (show 0 ≤ size by omega)
  rw [Int.toNat_natCast]
  have ew : num_wide.f (m : Int) = some true := by unfold num_wide.f; rw [if_pos (by omega), decide_eq_true (by omega)]
  by_cases h1 : n > 4611686018427387904
  ·rw [putBin_out n m (Or.inl h1)]
   refine Ev.congr (fun k => ?_) hno
   unfold num_PutBinary.f
   rw [ew, Option.bind_some, if_pos rfl, if_pos h1]
  ·by_cases h2 : n < -4611686018427387904
   ·rw [putBin_out n m (Or.inr h2)]
    refine Ev.congr (fun k => ?_) hno
    unfold num_PutBinary.f
    rw [ew, Option.bind_some, if_pos rfl, if_neg h1, decide_eq_true h2]
   ·have hL := putBinLoop n m (by omega) (by omega) m 0 n [] (by omega) (by omega) rfl (fun x hx => by simp at hx)
    simp only [List.append_nil] at hL
    have hj : Ev (fun k => num_PutBinary.j0 k n (m : Int) false) (putBin n m) := by
     refine Ev.step (fun k => ?_) hL
     simp only [num_PutBinary.j0]
     rw [if_neg (by simp), if_pos (by omega), if_pos (by omega), Int.toNat_natCast]
     rfl
    refine Ev.congr (fun k => ?_) hj
    unfold num_PutBinary.f
    rw [ew, Option.bind_some, if_pos rfl, if_neg h1, decide_eq_false h2]
 ·rw [if_neg hs]
  refine Ev.congr (fun k => ?_) hno
  unfold num_PutBinary.f num_wide.f
  by_cases h1 : size ≥ 2
  ·rw [if_pos h1, decide_eq_false (by omega), Option.bind_some, if_neg (by simp)]
  ·rw [if_neg h1, Option.bind_some, if_neg (by simp)]

/-! ### digits, whatever is asked -/
def putOctF (n size : Int) : List Int × Bool :=
 if 2 ≤ size ∧ size ≤ 32 ∧ 0 ≤ n ∧ n ≤ 4611686018427387904 then (if n / 8 ^ (size.toNat - 1) > 0 then ([], false) else (digs (size.toNat - 1) n ++ [0], true)) else ([], false)
theorem PutOctal_all (n size : Int) : Ev (fun k => num_PutOctal.f k n size) (putOctF n size) := by
 have hno : Ev (fun k => num_PutOctal.j0 k n size true) (([], false) : List Int × Bool) := by
  refine Ev.step (f := fun _ => some (([] : List Int), false)) (fun k => ?_) (Ev.now _)
  simp only [num_PutOctal.j0, if_true]
 unfold putOctF
 by_cases h : 2 ≤ size ∧ size ≤ 32 ∧ 0 ≤ n ∧ n ≤ 4611686018427387904
 ·rw [if_pos h]
  obtain ⟨m, rfl⟩ := Int.eq_ofNat_of_zero_le (show 0 ≤ size by omega)
  rw [Int.toNat_natCast]
  exact PutOctal_eq n m (by omega) (by omega) (by omega) (by omega)
 ·rw [if_neg h]
  refine Ev.congr (fun k => ?_) hno
  unfold num_PutOctal.f num_wide.f
  by_cases h1 : size ≥ 2
  ·rw [if_pos h1, Option.bind_some]
   by_cases h2 : size ≤ 32
   ·rw [decide_eq_true h2, if_pos rfl]
    by_cases h3 : n < 0
    ·rw [if_pos h3]
    ·rw [if_neg h3, decide_eq_true (by omega)]
   ·rw [decide_eq_false h2, if_neg (by simp)]
  ·rw [if_neg h1, Option.bind_some, if_neg (by simp)]
def putF (n size : Int) : List Int × Bool := if (putOctF n size).2 = true then ((putOctF n size).1, true) else putBinF n size
theorem Put_eq (n size : Int) : Ev (fun k => num_Put.f k n size) (putF n size) := by
 refine Ev.congr (fun k => rfl) (Ev.bind (g := fun k => num_PutOctal.f k n size) (f := fun k (t : List Int × Bool) => if t.2 = true then some (t.1, true) else ((num_PutBinary.f k n size).bind fun b => some (b.1, b.2))) (PutOctal_all n size) ?_)
 unfold putF
 by_cases h : (putOctF n size).2 = true
 ·simp only [if_pos h]; exact Ev.now _
 ·simp only [if_neg h]
  exact Ev.bind (PutBinary_eq n size) (Ev.now _)
end Go.Proofs.YtkfcfbggojmfkaaGreatDoor.P
end

section
namespace Go.Proofs.YtkfcfbggojmfkaaGreatDoor.P
open Go.RowKit Go.Shelf Go.Lib Go.Proofs.YtkfcfbggojmfkaaGreatDoorW.PrintWords Go.Proofs.YtkfcfbggojmfkaaGreatDoorW.PrintLast Go.Proofs.YtkfcfbggojmfkaaGreatDoorW.PrintMore
set_option linter.unusedVariables false
set_option linter.unusedSimpArgs false

theorem p256 (m : Nat) : (0 : Int) < 256 ^ m := Int.pow_pos (by decide)
theorem p8 (m : Nat) : (0 : Int) < 8 ^ m := Int.pow_pos (by decide)
theorem div_succ (n : Int) (m : Nat) : n / 256 ^ (m + 1) = n / 256 ^ m / 256 := by
 rw [Int.pow_succ, Int.ediv_ediv_of_nonneg (Int.le_of_lt (p256 m))]
theorem div_succ' (n : Int) (m : Nat) : n / 256 ^ (m + 1) = n / 256 / 256 ^ m := by
 rw [Int.pow_succ', Int.ediv_ediv_of_nonneg (by decide)]
theorem mod_succ (n : Int) (m : Nat) : n % 256 ^ (m + 1) = (n / 256 ^ m % 256) * 256 ^ m + n % 256 ^ m := by
 have h1 := Int.mul_ediv_add_emod n (256 ^ m)
 have h2 := Int.mul_ediv_add_emod n (256 ^ (m + 1))
 have h3 := Int.mul_ediv_add_emod (n / 256 ^ m) 256
 rw [div_succ] at h2
 have h4 : (256 : Int) ^ (m + 1) = 256 ^ m * 256 := Int.pow_succ ..
 rw [h4] at h2 ⊢
 obtain ⟨q, hq⟩ : ∃ q, q = n / 256 ^ m := ⟨_, rfl⟩
 obtain ⟨p, hp⟩ : ∃ p : Int, p = 256 ^ m := ⟨_, rfl⟩
 rw [← hq] at h1 h2 h3 ⊢
 rw [← hp] at h1 h2 ⊢
 have h5 : p * q = p * (256 * (q / 256)) + p * (q % 256) := by rw [← Int.mul_add, h3]
 rw [Int.mul_assoc] at h2
 rw [Int.mul_comm (q % 256) p]
 omega
theorem bdigs_top : ∀ (m : Nat) (n : Int), bdigs (m + 1) n = (n / 256 ^ m % 256) :: bdigs m n
 | 0, n => by simp [bdigs]
 | m + 1, n => by
  rw [bdigs, bdigs_top m (n / 256), ← div_succ']
  rfl
theorem binLoop_val : ∀ (m : Nat) (n v : Int), (binLoop v (bdigs m n)).2 = true → (binLoop v (bdigs m n)).1 = v * 256 ^ m + n % 256 ^ m
 | 0, n, v => by
  simp only [bdigs, binLoop, binEnd]
  split
  ·intro h; cases h
  ·split
   ·intro h; cases h
   ·intro _; simp [Int.emod_one]
 | m + 1, n, v => by
  rw [bdigs_top, binLoop]
  split
  ·intro h; cases h
  ·split
   ·intro h; cases h
   ·intro h
    rw [binLoop_val m n _ h, mod_succ, Int.add_mul, Int.pow_succ', Int.mul_assoc]
    omega
theorem div_range (x p c : Int) (hp : 0 < p) (h0 : -c ≤ x) (h1 : x ≤ c) (hc : 0 ≤ c) : -c ≤ x / p ∧ x / p ≤ c := by
 constructor
 ·rw [Int.le_ediv_iff_mul_le hp]
  have : (-c) * p ≤ (-c) * 1 := Int.mul_le_mul_of_nonpos_left (by omega) (by omega)
  omega
 ·have : x / p < c + 1 := by
   rw [Int.ediv_lt_iff_lt_mul hp]
   have : (c + 1) * 1 ≤ (c + 1) * p := Int.mul_le_mul_of_nonneg_left (by omega) (by omega)
   omega
  omega
theorem binLoop_fits : ∀ (m : Nat) (n : Int), -4611686018427387904 ≤ n → n ≤ 4611686018427387904 → binLoop (n / 256 ^ m) (bdigs m n) = (n, true)
 | 0, n, h0, h1 => by
  simp only [bdigs, binLoop, binEnd, Int.pow_zero, Int.ediv_one]
  rw [if_neg (by omega), if_neg (by omega)]
 | m + 1, n, h0, h1 => by
  have hr := div_range (n / 256) (256 ^ m) 18014398509481984 (p256 m) (by omega) (by omega) (by omega)
  rw [← div_succ'] at hr
  rw [bdigs_top, binLoop, if_neg (by omega), if_neg (by omega), div_succ, show n / 256 ^ m / 256 * 256 + n / 256 ^ m % 256 = n / 256 ^ m by omega]
  exact binLoop_fits m n h0 h1
def fits (n : Int) (m : Nat) : Prop := -4611686018427387904 ≤ n ∧ n ≤ 4611686018427387904 ∧ -64 ≤ n / 256 ^ m ∧ n / 256 ^ m < 64
instance (n : Int) (m : Nat) : Decidable (fits n m) := by unfold fits; infer_instance
theorem binF_fits (n : Int) (m : Nat) (h : fits n m) : binF (raise128 (bdigs (m + 1) n)) = (n, true) := by
 obtain ⟨h0, h1, h2, h3⟩ := h
 rw [bdigs_top]
 simp only [raise128, binF]
 have hr := binLoop_fits m n h0 h1
 obtain ⟨q, hq⟩ : ∃ q, q = n / 256 ^ m := ⟨_, rfl⟩
 rw [← hq] at h2 h3 hr ⊢
 rw [if_neg (by omega), show binTop (q % 256 % 128 + 128) = q by unfold binTop; split <;> omega]
 exact hr
theorem putBin_eq (n : Int) (m : Nat) : putBin n (m + 1) = if fits n m then (raise128 (bdigs (m + 1) n), true) else ([], false) := by
 by_cases h : fits n m
 ·rw [if_pos h]
  unfold putBin
  rw [binF_fits n m h, if_pos rfl, if_pos rfl]
 ·rw [if_neg h]
  by_cases ho : n > 4611686018427387904 ∨ n < -4611686018427387904
  ·exact putBin_out n _ ho
  ·unfold putBin
   split
   ·rename_i h1
    rw [if_neg]
    intro h2
    apply h
    rw [bdigs_top] at h1 h2
    simp only [raise128, binF] at h1 h2
    obtain ⟨q, hq⟩ : ∃ q, q = n / 256 ^ m := ⟨_, rfl⟩
    have hd := Int.mul_ediv_add_emod n (256 ^ m)
    have hp := p256 m
    unfold fits
    rw [← hq] at h1 h2 hd ⊢
    rw [if_neg (by omega)] at h1 h2
    have hv := binLoop_val m n _ h1
    rw [h2] at hv
    have e : 256 ^ m * q = 256 ^ m * binTop (q % 256 % 128 + 128) := by rw [Int.mul_comm (256 ^ m) (binTop _)]; omega
    have e2 : q = binTop (q % 256 % 128 + 128) := Int.eq_of_mul_eq_mul_left (by omega) e
    have e3 : -64 ≤ binTop (q % 256 % 128 + 128) ∧ binTop (q % 256 % 128 + 128) < 64 := by unfold binTop; split <;> omega
    refine ⟨by omega, by omega, by omega, by omega⟩
   ·rfl
end Go.Proofs.YtkfcfbggojmfkaaGreatDoor.P
end

section
namespace Go.Proofs.YtkfcfbggojmfkaaGreatDoor.P
open Go.RowKit Go.Shelf Go.Lib Go.Proofs.YtkfcfbggojmfkaaGreatDoorW.PrintWords Go.Proofs.YtkfcfbggojmfkaaGreatDoorW.PrintLast Go.Proofs.YtkfcfbggojmfkaaGreatDoorW.PrintMore
set_option linter.unusedVariables false
set_option linter.unusedSimpArgs false

def octRoom (x : Int) (s : Nat) : Prop := 0 ≤ x ∧ ¬ x / 8 ^ s > 0
instance (n : Int) (m : Nat) : Decidable (octRoom n m) := by unfold octRoom; infer_instance
theorem putOct_at (x : Int) (s : Nat) (hs : s + 2 ≤ 32) (h1 : x ≤ 4611686018427387904) : putOctF x ((s + 2 : Nat) : Int) = if octRoom x (s + 1) then (digs (s + 1) x ++ [0], true) else ([], false) := by
 unfold putOctF
 rw [Int.toNat_natCast, show s + 2 - 1 = s + 1 by omega]
 by_cases h : 0 ≤ x
 ·rw [if_pos (by refine ⟨by omega, by omega, h, h1⟩)]
  by_cases h2 : x / 8 ^ (s + 1) > 0
  ·rw [if_pos h2, if_neg (fun q : octRoom x (s + 1) => q.2 h2)]
  ·rw [if_neg h2, if_pos (show octRoom x (s + 1) from ⟨h, h2⟩)]
 ·rw [if_neg (fun q => h q.2.2.1), if_neg (fun q : octRoom x (s + 1) => h q.1)]
theorem putBin_at (x : Int) (s : Nat) (hs : s + 2 ≤ 32) : putBinF x ((s + 2 : Nat) : Int) = if fits x (s + 1) then (raise128 (bdigs (s + 2) x), true) else ([], false) := by
 unfold putBinF
 rw [if_pos (by omega), Int.toNat_natCast, putBin_eq]
theorem put_at (x : Int) (s : Nat) (hs : s + 2 ≤ 32) (h1 : x ≤ 4611686018427387904) : putF x ((s + 2 : Nat) : Int) = if octRoom x (s + 1) then (digs (s + 1) x ++ [0], true) else if fits x (s + 1) then (raise128 (bdigs (s + 2) x), true) else ([], false) := by
 unfold putF
 rw [putOct_at x s hs h1, putBin_at x s hs]
 by_cases h : octRoom x (s + 1)
 ·rw [if_pos h, if_pos h, if_pos rfl]
 ·rw [if_neg h, if_neg h, if_neg (by decide)]
theorem digs_len (s : Nat) (x : Int) : (digs (s + 1) x ++ [0]).length = s + 2 := by rw [List.length_append, digs_length]; rfl
theorem raise_len (s : Nat) (x : Int) : (raise128 (bdigs s x)).length = s := by rw [raise_length, bdigs_length]
end Go.Proofs.YtkfcfbggojmfkaaGreatDoor.P
end

section
namespace Go.Proofs.YtkfcfbggojmfkaaGreatDoor.P
open Go.RowKit Go.Shelf Go.Lib Go.Proofs.YtkfcfbggojmfkaaGreatDoorW.PrintWords Go.Proofs.YtkfcfbggojmfkaaGreatDoorW.PrintLast Go.Proofs.YtkfcfbggojmfkaaGreatDoorW.PrintMore
set_option linter.unusedVariables false
set_option linter.unusedSimpArgs false

def parseF (l : List Int) : Int × Bool := if (l.length : Int) > 0 ∧ rd l 0 ≥ 128 then binF l else octF l
theorem Octal_eq (l : List Int) (hb : Bytes l) : num_Octal.f l = some (octF l) := by
 unfold num_Octal.f
 rw [if_pos ((bytesB_iff l).2 hb)]
theorem Parse_eq (l : List Int) (hb : Bytes l) (hl : l.length < 9223372036854775807) : Ev (fun k => num_Parse.f k l) (parseF l) := by
 have hyes : Ev (fun k => num_Parse.j0 k l true) (binF l) := by
  refine Ev.step (f := fun k => (num_Binary.f k l).bind fun t => some (t.1, t.2)) (fun k => by simp only [num_Parse.j0, if_true]) ?_
  exact Ev.bind (Binary_eq l hb hl) (Ev.now _)
 have hno : Ev (fun k => num_Parse.j0 k l false) (octF l) := by
  refine Ev.step (f := fun _ => some (octF l)) (fun k => ?_) (Ev.now _)
  simp only [num_Parse.j0]
  rw [if_neg (by simp), Octal_eq l hb, Option.bind_some]
 unfold parseF
 by_cases h : (l.length : Int) > 0
 ·by_cases h2 : rd l 0 ≥ 128
  ·rw [if_pos ⟨h, h2⟩]
   refine Ev.congr (fun k => ?_) hyes
   unfold num_Parse.f
   rw [if_pos h, if_pos h, decide_eq_true h2]
  ·rw [if_neg (fun q => h2 q.2)]
   refine Ev.congr (fun k => ?_) hno
   unfold num_Parse.f
   rw [if_pos h, if_pos h, decide_eq_false h2]
 ·rw [if_neg (fun q => h q.1)]
  refine Ev.congr (fun k => ?_) hno
  unfold num_Parse.f
  rw [if_neg h]
theorem digs_small : ∀ (m : Nat) (n : Int), ∀ x ∈ digs m n, 48 ≤ x ∧ x ≤ 55
 | 0, n, x, hx => by simp [digs] at hx
 | m + 1, n, x, hx => by
  simp only [digs, List.mem_append, List.mem_singleton] at hx
  rcases hx with hx | rfl
  ·exact digs_small m _ x hx
  ·omega
theorem lt_of_room (x : Int) (s : Nat) (h : octRoom x s) : x < 8 ^ s := by
 have h2 := h.2
 have hp := p8 s
 rcases Int.lt_or_le x (8 ^ s) with h3 | h3
 ·exact h3
 ·exfalso
  apply h2
  have : (1 : Int) ≤ x / 8 ^ s := by
   rw [Int.le_ediv_iff_mul_le hp]
   omega
  omega
theorem put_bytes_oct (x : Int) (s : Nat) : Bytes (digs s x ++ [0]) := fun y hy => by
 rcases List.mem_append.1 hy with h | h
 ·have := digs_small s x y h; omega
 ·rw [List.mem_singleton.1 h]; omega
theorem parse_oct (x : Int) (s : Nat) (h : octRoom x (s + 1)) (h1 : x ≤ 4611686018427387904) : parseF (digs (s + 1) x ++ [0]) = (x, true) := by
 unfold parseF
 rw [if_neg]
 ·exact octF_digs (s + 1) x h.1 (by omega) (lt_of_room x _ h) h1 [0] rfl
 ·intro q
  have q2 := q.2
  cases e : digs (s + 1) x with
  | nil => have := digs_length (s + 1) x; rw [e] at this; simp at this
  | cons c t =>
   have hc := digs_small (s + 1) x c (by rw [e]; exact List.mem_cons_self ..)
   rw [e] at q2
   have : rd (c :: t ++ [0]) 0 = c := rfl
   omega
theorem parse_bin (x : Int) (s : Nat) (h : fits x s) : parseF (raise128 (bdigs (s + 1) x)) = (x, true) := by
 have hb := binF_fits x s h
 unfold parseF
 rw [if_pos]
 ·exact hb
 ·rw [bdigs_top]
  refine ⟨?_, ?_⟩
  ·simp only [raise128, List.length_cons]; omega
  ·show x / 256 ^ s % 256 % 128 + 128 ≥ 128
   omega
theorem put_bytes (x : Int) (s : Nat) (hs : s + 2 ≤ 32) (h1 : x ≤ 4611686018427387904) : Bytes (putF x ((s + 2 : Nat) : Int)).1 := by
 rw [put_at x s hs h1]
 split
 ·exact put_bytes_oct x (s + 1)
 ·split
  ·exact raise_bytes (bdigs_bytes _ _)
  ·exact fun y hy => by simp at hy
theorem put_parse (x : Int) (s : Nat) (hs : s + 2 ≤ 32) (h1 : x ≤ 4611686018427387904) (h : (putF x ((s + 2 : Nat) : Int)).2 = true) :
  (putF x ((s + 2 : Nat) : Int)).1.length = s + 2 ∧ parseF (putF x ((s + 2 : Nat) : Int)).1 = (x, true) := by
 rw [put_at x s hs h1] at h ⊢
 by_cases hO : octRoom x (s + 1)
 ·rw [if_pos hO] at h ⊢
  exact ⟨digs_len s x, parse_oct x s hO h1⟩
 ·rw [if_neg hO] at h ⊢
  by_cases hB : fits x (s + 1)
  ·rw [if_pos hB] at h ⊢
   exact ⟨raise_len _ _, parse_bin x (s + 1) hB⟩
  ·rw [if_neg hB] at h
   cases h
end Go.Proofs.YtkfcfbggojmfkaaGreatDoor.P
end
