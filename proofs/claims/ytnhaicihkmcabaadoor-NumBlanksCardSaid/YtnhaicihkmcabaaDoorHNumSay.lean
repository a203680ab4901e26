/- Numbers of fields: what is put, at a width of two to 32. No conditions. -/
import Derived.Test.YtnhaicihkmcabaaDoorHNumFit
namespace Go.Proofs.YtnhaicihkmcabaaDoor.P
open Go.RowKit Go.Shelf Go.Lib Go.Proofs.YtnhaicihkmcabaaDoorW.PrintWords Go.Proofs.YtnhaicihkmcabaaDoorW.PrintLast Go.Proofs.YtnhaicihkmcabaaDoorW.PrintMore
set_option linter.unusedVariables false
set_option linter.unusedSimpArgs false

def octRoom (x : Int) (s : Nat) : Prop := 0 ≤ x ∧ ¬ x / 8 ^ s > 0
instance (n : Int) (m : Nat) : Decidable (octRoom n m) := by unfold octRoom; infer_instance
theorem putOct_at (x : Int) (s : Nat) (hs : s + 2 ≤ 32) (h1 : x ≤ 4611686018427387904) : putOctF x ((s + 2 : Nat) : Int) = if octRoom x (s + 1) then (digs (s + 1) x ++ [0], true) else ([], false) := by
  unfold putOctF
  rw [Int.toNat_natCast, show s + 2 - 1 = s + 1 by omega]
  by_cases h : 0 ≤ x
  · rw [if_pos (by refine ⟨by omega, by omega, h, h1⟩)]
    by_cases h2 : x / 8 ^ (s + 1) > 0
    · rw [if_pos h2, if_neg (fun q : octRoom x (s + 1) => q.2 h2)]
    · rw [if_neg h2, if_pos (show octRoom x (s + 1) from ⟨h, h2⟩)]
  · rw [if_neg (fun q => h q.2.2.1), if_neg (fun q : octRoom x (s + 1) => h q.1)]
theorem putBin_at (x : Int) (s : Nat) (hs : s + 2 ≤ 32) : putBinF x ((s + 2 : Nat) : Int) = if fits x (s + 1) then (raise128 (bdigs (s + 2) x), true) else ([], false) := by
  unfold putBinF
  rw [if_pos (by omega), Int.toNat_natCast, putBin_eq]
theorem put_at (x : Int) (s : Nat) (hs : s + 2 ≤ 32) (h1 : x ≤ 4611686018427387904) : putF x ((s + 2 : Nat) : Int) = if octRoom x (s + 1) then (digs (s + 1) x ++ [0], true) else if fits x (s + 1) then (raise128 (bdigs (s + 2) x), true) else ([], false) := by
  unfold putF
  rw [putOct_at x s hs h1, putBin_at x s hs]
  by_cases h : octRoom x (s + 1)
  · rw [if_pos h, if_pos h, if_pos rfl]
  · rw [if_neg h, if_neg h, if_neg (by decide)]
theorem octRoom_more (x : Int) (s : Nat) (h : octRoom x s) : octRoom x (s + 1) := ⟨h.1, oct_more x s h.1 h.2⟩
theorem digs_len (s : Nat) (x : Int) : (digs (s + 1) x ++ [0]).length = s + 2 := by rw [List.length_append, digs_length]; rfl
theorem raise_len (s : Nat) (x : Int) : (raise128 (bdigs s x)).length = s := by rw [raise_length, bdigs_length]
end Go.Proofs.YtnhaicihkmcabaaDoor.P
