/- What Pack answers: in lists and numbers. No conditions. -/
import Derived.Test.YtlnbkmlidmgbaaaDoorHSp
import Derived.Test.YtlnbkmlidmgbaaaDoorHSPack
namespace Go.Proofs.YtlnbkmlidmgbaaaDoor.P
open Go Go.RowKit Go.Proofs.YtlnbkmlidmgbaaaDoorW.PrintWords Go.Proofs.YtlnbkmlidmgbaaaDoorW.PrintLast Go.Proofs.YtlnbkmlidmgbaaaDoorW.PrintMore
set_option linter.unusedVariables false
set_option linter.unusedSimpArgs false

/-- The last part gets so many bytes more. -/
def addLast (o : List S40) (n : Int) : List S40 := o.set (o.length - 1) ⟨(o.getD (o.length - 1) z40).f0, (o.getD (o.length - 1) z40).f1 + n⟩
/-- The parts, one more of them where none is open. -/
def opn (op : Bool) (out : List S40) (j : Nat) : List S40 := match op with
  | true => out
  | false => out ++ [⟨(j : Int), 0⟩]
/-- Has a block nothing? -/
def noB (x : List Int) : Bool := x.all (fun y => decide (y = 0))
/-- What is packed, from some place on. -/
def packR (b : List Int) : Nat → Nat → List S40 → List Int → Bool → List S40 × List Int
  | 0, _, out, data, _ => (out, data)
  | f + 1, j, out, data, op => if j < b.length then
      (if noB ((b.drop j).take 512) = true then packR b f (j + 512) out data false
       else packR b f (j + 512) (addLast (opn op out j) (((b.drop j).take 512).length : Int)) (data ++ (b.drop j).take 512) true)
    else (out, data)
theorem addLast_length (o : List S40) (n : Int) : (addLast o n).length = o.length := by unfold addLast; simp
theorem addLast_mem (o : List S40) (n m : Int) (h : ∀ p ∈ o, 0 ≤ p.f1 ∧ p.f1 ≤ m) (hn : 0 ≤ n) : ∀ p ∈ addLast o n, 0 ≤ p.f1 ∧ p.f1 ≤ m + n := by
  intro p hp
  unfold addLast at hp
  rcases List.mem_or_eq_of_mem_set hp with h1 | h1
  · have := h p h1
    omega
  · subst h1
    simp only
    rcases Nat.lt_or_ge (o.length - 1) o.length with h2 | h2
    · have h3 := h (o.getD (o.length - 1) z40) (by simp [List.getD, h2])
      omega
    · have h3 : o = [] := List.eq_nil_of_length_eq_zero (by omega)
      subst h3
      simp [z40] at hp
/-- The bounds of a block. -/
theorem blk_bounds (b : List Int) (j : Nat) (hj : j < b.length) (hb : b.length ≤ 140737488355328) : mn (wrap64 ((j : Int) + 512)) (b.length : Int) = ((min (j + 512) b.length : Nat) : Int) := by
  rw [wrap64_id _ (by omega) (by omega)]
  unfold mn
  split <;> omega
theorem blk_eq (b : List Int) (j : Nat) : (b.take (min (j + 512) b.length)).drop j = (b.drop j).take 512 := by
  rw [List.drop_take]
  rcases Nat.lt_or_ge (j + 512) b.length with h | h
  · rw [Nat.min_eq_left (by omega), show j + 512 - j = 512 by omega]
  · rw [Nat.min_eq_right h, List.take_of_length_le (by rw [List.length_drop]; omega), List.take_of_length_le (by rw [List.length_drop]; omega)]
theorem trim0_none (x : List Int) : (((trim0 x).length : Int) = 0) ↔ noB x = true := by
  rw [show (((trim0 x).length : Int) = 0) ↔ trim0 x = [] from ⟨fun h => List.eq_nil_of_length_eq_zero (by omega), fun h => by rw [h]; rfl⟩, trim0_nil]
  unfold noB
  rw [List.all_eq_true]
  simp
/-- What the walk says of the last part is addLast. -/
theorem addLast_eq (o : List S40) (n : Int) (h0 : 0 < o.length) (hl : o.length ≤ 4294967296) (h1 : ∀ p ∈ o, 0 ≤ p.f1 ∧ p.f1 ≤ 140737488355328) (hn : 0 ≤ n ∧ n ≤ 512) :
    o.set (wrap64 ((o.length : Int) - 1)).toNat (⟨(rd_T40 o (wrap64 ((o.length : Int) - 1))).f0, wrap64 ((rd_T40 o (wrap64 ((o.length : Int) - 1))).f1 + n)⟩ : S40) = addLast o n := by
  have e : wrap64 ((o.length : Int) - 1) = ((o.length - 1 : Nat) : Int) := by rw [wrap64_id _ (by omega) (by omega)]; omega
  rw [e]
  have hm := h1 (o.getD (o.length - 1) z40) (by simp [List.getD, show o.length - 1 < o.length by omega])
  unfold addLast rd_T40
  rw [Int.toNat_natCast, wrap64_id _ (by omega) (by omega)]
set_option maxRecDepth 100000 in
theorem pack_l0 (b : List Int) (hb : b.length ≤ 1048576) : ∀ (d f j : Nat) (out : List S40) (data : List Int) (op : Bool), b.length ≤ j + 512 * d → d < f → out.length ≤ j → data.length ≤ j → (op = true → 0 < out.length) → (∀ p ∈ out, 0 ≤ p.f1 ∧ p.f1 ≤ (j : Int)) → j ≤ b.length + 512 →
    Ev (fun k => sparse_Pack.l0 k b out data op (j : Int)) (packR b f j out data op) := by
  intro d
  induction d with
  | zero =>
    intro f j out data op h0 hf h1 h2 h3 h4 h5
    obtain ⟨f, rfl⟩ : ∃ m, f = m + 1 := ⟨f - 1, by omega⟩
    simp only [packR]
    rw [if_neg (by omega)]
    exact Ev.step (f := fun _ => some (out, data)) (fun k => by simp only [sparse_Pack.l0]; rw [if_neg (by omega)]) (Ev.now _)
  | succ d ih =>
    intro f j out data op h0 hf h1 h2 h3 h4 h5
    obtain ⟨f, rfl⟩ : ∃ m, f = m + 1 := ⟨f - 1, by omega⟩
    by_cases c : j < b.length
    · have hbb := blk_bounds b j c (by omega)
      have hbe := blk_eq b j
      obtain ⟨x, hx⟩ : ∃ x, x = (b.drop j).take 512 := ⟨_, rfl⟩
      have hxl : x.length ≤ 512 := by rw [hx, List.length_take]; omega
      have w5 : wrap64 ((j : Int) + 512) = ((j + 512 : Nat) : Int) := by rw [wrap64_id _ (by omega) (by omega)]; push_cast; rfl
      have htr : bytes_Trim.f x (⟨#[0]⟩ : ByteArray) = some (trim0 x) := rfl
      have hstep : ∀ k, sparse_Pack.l0 (k + 1) b out data op (j : Int) = if noB x = true then sparse_Pack.l0 k b out data false ((j + 512 : Nat) : Int) else sparse_Pack.l0 k b (addLast (opn op out j) (x.length : Int)) (data ++ x) true ((j + 512 : Nat) : Int) := by
        intro k
        simp only [sparse_Pack.l0]
        rw [if_pos (by omega), if_pos (by omega), hbb, if_pos (by omega), if_pos (by omega), Int.toNat_natCast, Int.toNat_natCast, hbe, ← hx, htr, Option.bind_some, w5]
        by_cases c2 : noB x = true
        · rw [if_pos ((trim0_none x).2 c2), if_pos c2]
        · rw [if_neg (fun h => c2 ((trim0_none x).1 h)), if_neg c2]
          cases op with
          | true =>
            have hp := h3 rfl
            have e : wrap64 ((out.length : Int) - 1) = ((out.length - 1 : Nat) : Int) := by rw [wrap64_id _ (by omega) (by omega)]; omega
            have ha := addLast_eq out (x.length : Int) hp (by omega) (fun p hq => by have := h4 p hq; omega) (by omega)
            rw [show opn true out j = out from rfl, if_pos rfl, if_pos (by omega), if_pos (by omega), if_pos (by omega), ha]
          | false =>
            have hol : (out ++ [(⟨(j : Int), 0⟩ : S40)]).length = out.length + 1 := by simp
            have ha := addLast_eq (out ++ [⟨(j : Int), 0⟩]) (x.length : Int) (by omega) (by omega) (fun p hq => by
              rcases List.mem_append.1 hq with h | h
              · have := h4 p h; omega
              · rw [List.mem_singleton] at h; subst h; simp only; omega) (by omega)
            have e : wrap64 (((out ++ [(⟨(j : Int), 0⟩ : S40)]).length : Int) - 1) = (out.length : Int) := by rw [hol, wrap64_id _ (by omega) (by omega)]; push_cast; omega
            rw [show opn false out j = out ++ [(⟨(j : Int), 0⟩ : S40)] from rfl, if_neg (by simp), if_pos (by omega), Option.bind_some, if_pos (by omega), if_pos (by omega), if_pos (by omega), ha]
      simp only [packR]
      rw [if_pos c, ← hx]
      by_cases c2 : noB x = true
      · rw [if_pos c2]
        refine Ev.step (f := fun k => sparse_Pack.l0 k b out data false ((j + 512 : Nat) : Int)) (fun k => by rw [hstep, if_pos c2]) ?_
        exact ih f (j + 512) out data false (by omega) (by omega) (by omega) (by omega) (fun h => by cases h) (fun p hp => by have := h4 p hp; omega) (by omega)
      · rw [if_neg c2]
        refine Ev.step (f := fun k => sparse_Pack.l0 k b (addLast (opn op out j) (x.length : Int)) (data ++ x) true ((j + 512 : Nat) : Int)) (fun k => by rw [hstep, if_neg c2]) ?_
        obtain ⟨o, ho⟩ : ∃ o, o = (opn op out j) := ⟨_, rfl⟩
        have hol : 0 < o.length ∧ o.length ≤ out.length + 1 := by
          rw [ho]
          cases op with
          | true => exact ⟨h3 rfl, Nat.le_succ _⟩
          | false => simp [opn]
        have hom : ∀ p ∈ o, 0 ≤ p.f1 ∧ p.f1 ≤ (j : Int) := by
          rw [ho]
          cases op with
          | true => exact h4
          | false =>
            intro p hq
            rcases List.mem_append.1 hq with h | h
            · exact h4 p h
            · rw [List.mem_singleton] at h; subst h; simp only; omega
        rw [← ho]
        exact ih f (j + 512) (addLast o (x.length : Int)) (data ++ x) true (by omega) (by omega) (by rw [addLast_length]; omega) (by rw [List.length_append]; omega) (fun _ => by rw [addLast_length]; exact hol.1) (fun p hp => by have := addLast_mem o (x.length : Int) (j : Int) hom (by omega) p hp; omega) (by omega)
    · simp only [packR]
      rw [if_neg c]
      exact Ev.step (f := fun _ => some (out, data)) (fun k => by simp only [sparse_Pack.l0]; rw [if_neg (by omega)]) (Ev.now _)
/-- What is packed. -/
def packM (b : List Int) : List S40 × List Int := packR b (b.length + 1) 0 [] [] false
theorem Pack_ev (b : List Int) (hb : b.length ≤ 1048576) : Ev (fun k => sparse_Pack.f k b) (packM b) :=
  pack_l0 b hb b.length (b.length + 1) 0 [] [] false (by omega) (by omega) (by simp) (by simp) (fun h => by cases h) (fun p hp => by cases hp) (by omega)

/-! ### Bytes without holes; noughts alone -/
theorem noB_rep (n : Nat) : noB (List.replicate n 0) = true := by
  unfold noB
  rw [List.all_eq_true]
  intro x hx
  rw [List.eq_of_mem_replicate hx]
  rfl
theorem pack_zero (n : Nat) : ∀ (f j : Nat) (op : Bool), packR (List.replicate n 0) f j [] [] op = ([], [])
  | 0, _, _ => rfl
  | f + 1, j, op => by
    simp only [packR]
    split
    · rw [List.drop_replicate, List.take_replicate, if_pos (noB_rep _)]
      exact pack_zero n f (j + 512) false
    · rfl
theorem pack_full (b : List Int) (h : ∀ x ∈ b, x ≠ 0) : ∀ (f j : Nat), b.length ≤ j + 512 * f → 0 < j → j ≤ b.length + 511 → packR b f j [⟨0, ((min j b.length : Nat) : Int)⟩] (b.take j) true = ([⟨0, (b.length : Int)⟩], b)
  | 0, j, h0, h1, h2 => by
    simp only [packR]
    rw [Nat.min_eq_right (by omega), List.take_of_length_le (by omega)]
  | f + 1, j, h0, h1, h2 => by
    simp only [packR]
    by_cases c : j < b.length
    · have hne : ¬ noB ((b.drop j).take 512) = true := by
        rw [List.drop_eq_getElem_cons c, show (512 : Nat) = 511 + 1 from rfl, List.take_succ_cons]
        unfold noB
        rw [List.all_cons, decide_eq_false (h _ (List.getElem_mem c)), Bool.false_and]
        simp
      have hl : ((b.drop j).take 512).length = min 512 (b.length - j) := by rw [List.length_take, List.length_drop]
      rw [if_pos c, if_neg hne, show opn true [(⟨0, ((min j b.length : Nat) : Int)⟩ : S40)] j = [⟨0, ((min j b.length : Nat) : Int)⟩] from rfl]
      have e1 : addLast [(⟨0, ((min j b.length : Nat) : Int)⟩ : S40)] (((b.drop j).take 512).length : Int) = [⟨0, ((min (j + 512) b.length : Nat) : Int)⟩] := by
        rw [hl]
        unfold addLast
        simp
        omega
      have e2 : b.take j ++ (b.drop j).take 512 = b.take (j + 512) := by rw [List.take_add]
      rw [e1, e2]
      exact pack_full b h f (j + 512) (by omega) (by omega) (by omega)
    · rw [if_neg c, Nat.min_eq_right (by omega), List.take_of_length_le (by omega)]
theorem packM_full (b : List Int) (h : ∀ x ∈ b, x ≠ 0) (h0 : 0 < b.length) : packM b = ([⟨0, (b.length : Int)⟩], b) := by
  unfold packM
  have hne : ¬ noB ((b.drop 0).take 512) = true := by
    rw [List.drop_eq_getElem_cons h0, show (512 : Nat) = 511 + 1 from rfl, List.take_succ_cons]
    unfold noB
    rw [List.all_cons, decide_eq_false (h _ (List.getElem_mem h0)), Bool.false_and]
    simp
  have hl : ((b.drop 0).take 512).length = min 512 b.length := by rw [List.length_take, List.length_drop]; omega
  simp only [packR]
  rw [if_pos h0, if_neg hne, show opn false ([] : List S40) 0 = [] ++ [⟨((0 : Nat) : Int), 0⟩] from rfl, hl]
  have e1 : addLast ([] ++ [(⟨((0 : Nat) : Int), 0⟩ : S40)]) ((min 512 b.length : Nat) : Int) = [⟨0, ((min (0 + 512) b.length : Nat) : Int)⟩] := by
    unfold addLast
    simp
  rw [e1]
  exact pack_full b h b.length (0 + 512) (by omega) (by omega) (by omega)
theorem packM_zero (n : Nat) : packM (List.replicate n 0) = ([], []) := pack_zero n _ 0 false
end Go.Proofs.YtlnbkmlidmgbaaaDoor.P
