/- Numbers of fields: bits. What the printed functions come to. No conditions. -/
import Derived.Test.YtnhaicihkmcabaaDoorHNum
namespace Go.Proofs.YtnhaicihkmcabaaDoor.P
open Go.RowKit Go.Shelf Go.Lib Go.Proofs.YtnhaicihkmcabaaDoorW.PrintWords Go.Proofs.YtnhaicihkmcabaaDoorW.PrintLast Go.Proofs.YtnhaicihkmcabaaDoorW.PrintMore
set_option linter.unusedVariables false
set_option linter.unusedSimpArgs false

def binEnd (n : Int) : Int × Bool := if n > 4611686018427387904 then (0, false) else if n < -4611686018427387904 then (0, false) else (n, true)
def binLoop : Int → List Int → Int × Bool
  | n, [] => binEnd n
  | n, c :: l => if n > 18014398509481984 then (0, false) else if n < -18014398509481985 then (0, false) else binLoop (n * 256 + c) l
def binTop (c : Int) : Int := if c < 192 then c - 128 else c - 256
def binF : List Int → Int × Bool
  | [] => (0, false)
  | c :: r => if c < 128 then (0, false) else binLoop (binTop c) r

theorem top_u8 : ∀ c : Fin 256, wrap64 (Go.bits .andNot .u8 (c.val : Int) 192) = (c.val : Int) % 64 ∧ wrap64 (Go.bits .and .u8 (c.val : Int) 64) = (if (c.val : Int) % 128 < 64 then 0 else 64) ∧ Go.bits .or .u8 (c.val : Int) 128 = (c.val : Int) % 128 + 128 := by decide +kernel
theorem top_eq (c : Int) (h0 : 128 ≤ c) (h1 : c < 256) : wrap64 (wrap64 (Go.bits .andNot .u8 c 192) - wrap64 (Go.bits .and .u8 c 64)) = binTop c := by
  obtain ⟨m, rfl⟩ := Int.eq_ofNat_of_zero_le (show 0 ≤ c by omega)
  have h := top_u8 ⟨m, by omega⟩
  dsimp only at h
  rw [h.1, h.2.1]
  clear h
  unfold binTop
  rw [wrap64_id _ (by split <;> omega) (by split <;> omega)]
  split <;> split <;> omega
theorem or_128 (c : Int) (h0 : 0 ≤ c) (h1 : c < 256) : Go.bits .or .u8 c 128 = c % 128 + 128 := by
  obtain ⟨m, rfl⟩ := Int.eq_ofNat_of_zero_le h0
  exact (top_u8 ⟨m, by omega⟩).2.2
/-- A number of 64 bits, moved up by eight, and a byte. -/
theorem or_byte (n c : Int) (h0 : -18014398509481985 ≤ n) (h1 : n ≤ 18014398509481984) (hc : 0 ≤ c) (hc1 : c < 256) : Go.bits .or .i64 (wrap64 (n * 256)) (wrap64 c) = n * 256 + c := by
  rw [wrap64_id _ (by omega) (by omega), wrap64_id c (by omega) (by omega)]
  obtain ⟨b, rfl⟩ := Int.eq_ofNat_of_zero_le hc
  have hN : ∃ a : Nat, ((n * 256 : Int) % 18446744073709551616) = ((a * 256 : Nat) : Int) ∧ a * 256 < 18446744073709551616 := by
    refine ⟨((n % 72057594037927936).toNat), ?_, ?_⟩ <;> omega
  obtain ⟨a, ha, hal⟩ := hN
  have hb : b < 256 := by omega
  have hor : a * 256 ||| b = a * 256 + b := by
    have := Nat.two_pow_add_eq_or_of_lt (i := 8) (show b < 2 ^ 8 by simpa using hb) a
    have e : (2 : Nat) ^ 8 = 256 := by decide
    rw [e, Nat.mul_comm] at this
    exact this.symm
  have hx : (BitVec.ofInt 64 (n * 256)).toNat = a * 256 := by
    rw [BitVec.toNat_ofInt]
    have e : ((2 ^ 64 : Nat) : Int) = 18446744073709551616 := by decide
    rw [e, ha]; exact Int.toNat_natCast _
  have hy : (BitVec.ofInt 64 (b : Int)).toNat = b := by
    rw [BitVec.ofInt_natCast, BitVec.toNat_ofNat]
    exact Nat.mod_eq_of_lt (by omega)
  show IntKind.i64.wrap (((BitVec.ofInt 64 (n * 256)) ||| (BitVec.ofInt 64 (b : Int))).toNat : Int) = n * 256 + (b : Int)
  rw [BitVec.toNat_or, hx, hy, hor, IntKind.wrap_i64]
  omega
theorem binLoop_eq (l : List Int) (hb : Bytes l) (hl : l.length < 9223372036854775807) : ∀ (d i : Nat) (n : Int), l.length - i = d → i ≤ l.length →
    Ev (fun k => num_Binary.l0 k n l (l.length : Int) (i : Int)) (binLoop n (l.drop i))
  | 0, i, n, hd, hi => by
    have e : i = l.length := by omega
    subst e
    rw [List.drop_length]
    refine Ev.step (f := fun _ => some (binLoop n [])) (fun k => ?_) (Ev.now _)
    simp only [num_Binary.l0, binLoop, binEnd]
    rw [if_neg (by omega)]
    split
    · rfl
    · split <;> rfl
  | d + 1, i, n, hd, hi => by
    have hlt : i < l.length := by omega
    have hxr := hb l[i] (List.getElem_mem _)
    have er : rd l (i : Int) = l[i] := by simp [rd, hlt]
    have ed : l.drop i = l[i] :: l.drop (i + 1) := List.drop_eq_getElem_cons hlt
    have ew : wrap64 ((i : Int) + 1) = ((i + 1 : Nat) : Int) := by rw [wrap64_id _ (by omega) (by omega)]; push_cast; rfl
    rw [ed, binLoop]
    by_cases h1 : n > 18014398509481984
    · rw [if_pos h1]
      refine Ev.step (f := fun _ => some (0, false)) (fun k => ?_) (Ev.now _)
      simp only [num_Binary.l0]
      rw [if_pos (by omega), if_pos (by omega), if_pos (by omega), if_pos h1]
    · rw [if_neg h1]
      by_cases h2 : n < -18014398509481985
      · rw [if_pos h2]
        refine Ev.step (f := fun _ => some (0, false)) (fun k => ?_) (Ev.now _)
        simp only [num_Binary.l0]
        rw [if_pos (by omega), if_pos (by omega), if_pos (by omega), if_neg h1, if_pos h2]
      · rw [if_neg h2]
        have ih := binLoop_eq l hb hl d (i + 1) (n * 256 + l[i]) (by omega) (by omega)
        refine Ev.step (fun k => ?_) ih
        simp only [num_Binary.l0]
        rw [if_pos (by omega), if_pos (by omega), if_pos (by omega), if_neg h1, if_neg h2, er, or_byte n l[i] (by omega) (by omega) hxr.1 hxr.2, ew]
theorem Binary_eq (l : List Int) (hb : Bytes l) (hl : l.length < 9223372036854775807) : Ev (fun k => num_Binary.f k l) (binF l) := by
  match l, hb, hl with
  | [], _, _ =>
    have hn : Ev (fun k => num_Binary.j0 k [] true) ((0 : Int), false) := Ev.step (f := fun _ => some ((0 : Int), false)) (fun k => by simp only [num_Binary.j0, if_true]) (Ev.now _)
    refine Ev.congr (fun k => ?_) hn
    unfold num_Binary.f; rw [if_pos (by simp)]
  | c :: r, hb, hl =>
    have hc := hb c (List.mem_cons_self ..)
    have e0 : rd (c :: r) 0 = c := by simp [rd]
    have hb' : Bytes r := fun x hx => hb x (List.mem_cons_of_mem _ hx)
    have hl' : r.length < 9223372036854775807 := by simp at hl; omega
    refine Ev.congr (f := fun k => num_Binary.j0 k (c :: r) (decide (c < 128))) (fun k => ?_) ?_
    · unfold num_Binary.f; rw [if_neg (by simp only [List.length_cons]; omega), if_pos (by simp only [List.length_cons]; omega), e0]
    · show Ev _ (if c < 128 then (0, false) else binLoop (binTop c) r)
      by_cases h : c < 128
      · rw [if_pos h, decide_eq_true h]
        refine Ev.step (f := fun _ => some ((0 : Int), false)) (fun k => ?_) (Ev.now _)
        simp only [num_Binary.j0, if_true]
      · rw [if_neg h, decide_eq_false h]
        have hL := binLoop_eq r hb' hl' r.length 0 (binTop c) (by omega) (by omega)
        rw [List.drop_zero] at hL
        refine Ev.step (fun k => ?_) hL
        simp only [num_Binary.j0]
        rw [if_neg (by simp), if_pos (by simp only [List.length_cons]; omega), if_pos (by simp only [List.length_cons]; omega), e0, top_eq c (by omega) hc.2]
        rfl

/-! ### the way back -/
def bdigs : Nat → Int → List Int
  | 0, _ => []
  | m + 1, n => bdigs m (n / 256) ++ [n % 256]
theorem bdigs_length : ∀ (m : Nat) (n : Int), (bdigs m n).length = m
  | 0, _ => rfl
  | m + 1, n => by simp [bdigs, bdigs_length m]
theorem bdigs_bytes : ∀ (m : Nat) (n : Int), Bytes (bdigs m n)
  | 0, _ => fun x hx => by simp [bdigs] at hx
  | m + 1, n => fun x hx => by
    rcases List.mem_append.1 hx with h | h
    · exact bdigs_bytes m _ x h
    · rw [List.mem_singleton.1 h]; omega
def raise128 : List Int → List Int
  | [] => []
  | c :: r => (c % 128 + 128) :: r
theorem raise_bytes {l : List Int} (h : Bytes l) : Bytes (raise128 l) := by
  match l, h with
  | [], _ => exact fun x hx => by simp [raise128] at hx
  | c :: r, h =>
    intro x hx
    rcases List.mem_cons.1 hx with rfl | hx
    · omega
    · exact h x (List.mem_cons_of_mem _ hx)
theorem raise_length (l : List Int) : (raise128 l).length = l.length := by cases l <;> rfl
def putBin (n : Int) (m : Nat) : List Int × Bool :=
  if (binF (raise128 (bdigs m n))).2 = true then (if (binF (raise128 (bdigs m n))).1 = n then (raise128 (bdigs m n), true) else ([], false)) else ([], false)

theorem putEnd (x0 x1 x7 x25 : Int) (size : Nat) (l : List Int) (hb : Bytes l) (hl : l.length = size) (hs : 2 ≤ size) (hs2 : size ≤ 32) (x26 : Int) (h : ¬ x26 < x25) :
    Ev (fun k => num_PutBinary.l0 k x0 x1 l x7 x25 x26) (if (binF (raise128 l)).2 = true then (if (binF (raise128 l)).1 = x0 then (raise128 l, true) else ([], false)) else ([], false)) := by
  match l, hb, hl with
  | [], _, hl => simp at hl; omega
  | c :: r, hb, hl =>
    have hc := hb c (List.mem_cons_self ..)
    have e0 : rd (c :: r) 0 = c := by simp [rd]
    have eo : Go.bits .or .u8 c 128 = c % 128 + 128 := or_128 c hc.1 hc.2
    have hB := Binary_eq (raise128 (c :: r)) (raise_bytes hb) (by rw [raise_length, hl]; omega)
    refine Ev.step (fun k => ?_) (Ev.bind (f := fun k t => if t.2 = true then (if t.1 = x0 then some (raise128 (c :: r), true) else some (([] : List Int), false)) else some (([] : List Int), false)) hB ?_)
    · simp only [num_PutBinary.l0]
      rw [if_neg h, if_pos (by simp only [List.length_cons]; omega), e0, eo]
      rfl
    · split
      · split
        · exact Ev.now _
        · exact Ev.now _
      · exact Ev.now _
theorem putBinLoop (x0 : Int) (size : Nat) (hs : 2 ≤ size) (hs2 : size ≤ 32) : ∀ (d i : Nat) (n : Int) (tail : List Int), size - i = d → i ≤ size → tail.length = i → Bytes tail →
    Ev (fun k => num_PutBinary.l0 k x0 (size : Int) (List.replicate d 0 ++ tail) n (size : Int) (i : Int)) (if (binF (raise128 (bdigs d n ++ tail))).2 = true then (if (binF (raise128 (bdigs d n ++ tail))).1 = x0 then (raise128 (bdigs d n ++ tail), true) else ([], false)) else ([], false))
  | 0, i, n, tail, hd, hi, ht, hb => by
    simp only [bdigs, List.nil_append, List.replicate_zero]
    exact putEnd x0 _ _ _ size tail hb (by omega) hs hs2 _ (by omega)
  | d + 1, i, n, tail, hd, hi, ht, hb => by
    have hb' : Bytes ((n % 256) :: tail) := fun x hx => by
      rcases List.mem_cons.1 hx with rfl | hx
      · omega
      · exact hb x hx
    have ih := putBinLoop x0 size hs hs2 d (i + 1) (n / 256) ((n % 256) :: tail) (by omega) (by omega) (by simp [ht]) hb'
    have e1 : wrap64 ((size : Int) - 1) = (size : Int) - 1 := wrap64_id _ (by omega) (by omega)
    have e2 : wrap64 ((size : Int) - 1 - (i : Int)) = (d : Int) := by rw [wrap64_id _ (by omega) (by omega)]; omega
    have e3 : wrap64 ((i : Int) + 1) = ((i + 1 : Nat) : Int) := by rw [wrap64_id _ (by omega) (by omega)]; push_cast; rfl
    have e5 : bdigs (d + 1) n ++ tail = bdigs d (n / 256) ++ ((n % 256) :: tail) := by simp only [bdigs, List.append_assoc, List.singleton_append]
    rw [e5]
    refine Ev.step (fun k => ?_) ih
    simp only [num_PutBinary.l0]
    rw [if_pos (by omega), e1, e2, if_pos (by omega), if_pos (by simp; omega), e3, Int.toNat_natCast, set_at_end]
def putBinF (n : Int) (size : Int) : List Int × Bool := if 2 ≤ size ∧ size ≤ 32 then putBin n size.toNat else ([], false)
theorem binEnd_range (n : Int) : (binEnd n).2 = true → -4611686018427387904 ≤ (binEnd n).1 ∧ (binEnd n).1 ≤ 4611686018427387904 := by
  unfold binEnd
  split
  · intro h; cases h
  · split
    · intro h; cases h
    · intro _; dsimp only; omega
theorem binLoop_range : ∀ (l : List Int) (n : Int), (binLoop n l).2 = true → -4611686018427387904 ≤ (binLoop n l).1 ∧ (binLoop n l).1 ≤ 4611686018427387904
  | [], n => binEnd_range n
  | c :: l, n => by
    unfold binLoop
    split
    · intro h; cases h
    · split
      · intro h; cases h
      · exact binLoop_range l _
theorem binF_range (l : List Int) : (binF l).2 = true → -4611686018427387904 ≤ (binF l).1 ∧ (binF l).1 ≤ 4611686018427387904 := by
  unfold binF
  split
  · intro h; cases h
  · split
    · intro h; cases h
    · exact binLoop_range _ _
theorem putBin_out (n : Int) (m : Nat) (h : n > 4611686018427387904 ∨ n < -4611686018427387904) : putBin n m = ([], false) := by
  unfold putBin
  split
  · rename_i h1
    have := binF_range _ h1
    rw [if_neg (by omega)]
  · rfl
theorem PutBinary_eq (n size : Int) : Ev (fun k => num_PutBinary.f k n size) (putBinF n size) := by
  have hno : Ev (fun k => num_PutBinary.j0 k n size true) (([], false) : List Int × Bool) := by
    refine Ev.step (f := fun _ => some (([] : List Int), false)) (fun k => ?_) (Ev.now _)
    simp only [num_PutBinary.j0, if_true]
  unfold putBinF
  by_cases hs : 2 ≤ size ∧ size ≤ 32
  · rw [if_pos hs]
    obtain ⟨m, rfl⟩ := Int.eq_ofNat_of_zero_le (show 0 ≤ size by omega)
    rw [Int.toNat_natCast]
    have ew : num_wide.f (m : Int) = some true := by unfold num_wide.f; rw [if_pos (by omega), decide_eq_true (by omega)]
    by_cases h1 : n > 4611686018427387904
    · rw [putBin_out n m (Or.inl h1)]
      refine Ev.congr (fun k => ?_) hno
      unfold num_PutBinary.f
      rw [ew, Option.bind_some, if_pos rfl, if_pos h1]
    · by_cases h2 : n < -4611686018427387904
      · rw [putBin_out n m (Or.inr h2)]
        refine Ev.congr (fun k => ?_) hno
        unfold num_PutBinary.f
        rw [ew, Option.bind_some, if_pos rfl, if_neg h1, decide_eq_true h2]
      · have hL := putBinLoop n m (by omega) (by omega) m 0 n [] (by omega) (by omega) rfl (fun x hx => by simp at hx)
        simp only [List.append_nil] at hL
        have hj : Ev (fun k => num_PutBinary.j0 k n (m : Int) false) (putBin n m) := by
          refine Ev.step (fun k => ?_) hL
          simp only [num_PutBinary.j0]
          rw [if_neg (by simp), if_pos (by omega), if_pos (by omega), Int.toNat_natCast]
          rfl
        refine Ev.congr (fun k => ?_) hj
        unfold num_PutBinary.f
        rw [ew, Option.bind_some, if_pos rfl, if_neg h1, decide_eq_false h2]
  · rw [if_neg hs]
    refine Ev.congr (fun k => ?_) hno
    unfold num_PutBinary.f num_wide.f
    by_cases h1 : size ≥ 2
    · rw [if_pos h1, decide_eq_false (by omega), Option.bind_some, if_neg (by simp)]
    · rw [if_neg h1, Option.bind_some, if_neg (by simp)]

/-! ### digits, whatever is asked -/
def putOctF (n size : Int) : List Int × Bool :=
  if 2 ≤ size ∧ size ≤ 32 ∧ 0 ≤ n ∧ n ≤ 4611686018427387904 then (if n / 8 ^ (size.toNat - 1) > 0 then ([], false) else (digs (size.toNat - 1) n ++ [0], true)) else ([], false)
theorem PutOctal_all (n size : Int) : Ev (fun k => num_PutOctal.f k n size) (putOctF n size) := by
  have hno : Ev (fun k => num_PutOctal.j0 k n size true) (([], false) : List Int × Bool) := by
    refine Ev.step (f := fun _ => some (([] : List Int), false)) (fun k => ?_) (Ev.now _)
    simp only [num_PutOctal.j0, if_true]
  unfold putOctF
  by_cases h : 2 ≤ size ∧ size ≤ 32 ∧ 0 ≤ n ∧ n ≤ 4611686018427387904
  · rw [if_pos h]
    obtain ⟨m, rfl⟩ := Int.eq_ofNat_of_zero_le (show 0 ≤ size by omega)
    rw [Int.toNat_natCast]
    exact PutOctal_eq n m (by omega) (by omega) (by omega) (by omega)
  · rw [if_neg h]
    refine Ev.congr (fun k => ?_) hno
    unfold num_PutOctal.f num_wide.f
    by_cases h1 : size ≥ 2
    · rw [if_pos h1, Option.bind_some]
      by_cases h2 : size ≤ 32
      · rw [decide_eq_true h2, if_pos rfl]
        by_cases h3 : n < 0
        · rw [if_pos h3]
        · rw [if_neg h3, decide_eq_true (by omega)]
      · rw [decide_eq_false h2, if_neg (by simp)]
    · rw [if_neg h1, Option.bind_some, if_neg (by simp)]
def putF (n size : Int) : List Int × Bool := if (putOctF n size).2 = true then ((putOctF n size).1, true) else putBinF n size
theorem Put_eq (n size : Int) : Ev (fun k => num_Put.f k n size) (putF n size) := by
  refine Ev.congr (fun k => rfl) (Ev.bind (g := fun k => num_PutOctal.f k n size) (f := fun k (t : List Int × Bool) => if t.2 = true then some (t.1, true) else ((num_PutBinary.f k n size).bind fun b => some (b.1, b.2))) (PutOctal_all n size) ?_)
  unfold putF
  by_cases h : (putOctF n size).2 = true
  · simp only [if_pos h]; exact Ev.now _
  · simp only [if_neg h]
    exact Ev.bind (PutBinary_eq n size) (Ev.now _)
end Go.Proofs.YtnhaicihkmcabaaDoor.P
