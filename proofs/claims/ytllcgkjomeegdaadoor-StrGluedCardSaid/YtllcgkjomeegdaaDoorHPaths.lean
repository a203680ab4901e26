/- Names of paths, by their bytes: how they join and part. No conditions. -/
import Derived.Test.YtllcgkjomeegdaaDoorHClean
import Derived.Test.YtllcgkjomeegdaaDoorHUtf
import Derived.Test.YtllcgkjomeegdaaDoorHPut
import Derived.Lib.IndexLaws
namespace Go.Proofs.YtllcgkjomeegdaaDoor.P
open Go.RowKit Go.Shelf Go.Lib Go.Proofs.YtllcgkjomeegdaaDoorW.PrintWords Go.Proofs.YtllcgkjomeegdaaDoorW.PrintLast Go.Proofs.YtllcgkjomeegdaaDoorW.PrintMore
set_option linter.unusedVariables false
set_option linter.unusedSimpArgs false

/-- A piece, if it is a name. -/
def nm (p : List UInt8) : List ByteArray := if isName p = true then [txt p] else []
/-- The names, a piece being begun. -/
def pieces : List UInt8 → List UInt8 → List ByteArray
  | p, [] => nm p
  | p, c :: t => if c = 47 then nm p ++ pieces [] t else pieces (p ++ [c]) t
def NoSlash (p : List UInt8) : Prop := ∀ c ∈ p, c ≠ 47
theorem NoSlash.nil : NoSlash [] := fun c hc => by simp at hc
theorem NoSlash.snoc {p : List UInt8} (h : NoSlash p) {c : UInt8} (hc : c ≠ 47) : NoSlash (p ++ [c]) := fun x hx => by
  rcases List.mem_append.1 hx with hx | hx
  · exact h x hx
  · simp at hx; subst hx; exact hc
theorem ix_no : ∀ (p : List UInt8), NoSlash p → Lib.indexByte p 47 = -1
  | [], _ => rfl
  | c :: t, h => by
    have hc := h c (by simp)
    have ih := ix_no t (fun x hx => h x (by simp [hx]))
    unfold Lib.indexByte
    rw [beq_eq_false_iff_ne.2 hc, ih]
    rfl
theorem ix_at : ∀ (p t : List UInt8), NoSlash p → Lib.indexByte (p ++ 47 :: t) 47 = (p.length : Int)
  | [], t, _ => rfl
  | c :: p, t, h => by
    have hc := h c (by simp)
    have ih := ix_at p t (fun x hx => h x (by simp [hx]))
    rw [List.cons_append]
    unfold Lib.indexByte
    rw [beq_eq_false_iff_ne.2 hc, ih]
    have : ((p.length : Int) == -1) = false := beq_eq_false_iff_ne.2 (by omega)
    simp [this]
theorem cut_no (p : List UInt8) (h : NoSlash p) : Lib.cut p [47] = (p, [], false) := by
  unfold Lib.cut
  rw [Lib.index_one, ix_no p h]
  rfl
theorem cut_at (p t : List UInt8) (h : NoSlash p) : Lib.cut (p ++ 47 :: t) [47] = (p, t, true) := by
  unfold Lib.cut
  rw [Lib.index_one, ix_at p t h, if_pos (by omega), Int.toNat_natCast]
  simp
theorem split_pieces : ∀ (l p : List UInt8), NoSlash p → splitL (p ++ l) = pieces p l
  | [], p, h => by
    rw [List.append_nil]
    by_cases h0 : p = []
    · subst h0; rfl
    · rw [splitL_step p h0, cut_no p h]
      simp only [splitL_nil, List.append_nil]
      rfl
  | c :: t, p, h => by
    by_cases hc : c = 47
    · subst hc
      have hne : p ++ 47 :: t ≠ [] := by simp
      rw [splitL_step _ hne, cut_at p t h]
      have ih := split_pieces t [] NoSlash.nil
      rw [List.nil_append] at ih
      simp only [pieces, if_true]
      rw [ih]
      rfl
    · have ih := split_pieces t (p ++ [c]) (h.snoc hc)
      rw [List.append_assoc] at ih
      simp only [pieces]
      rw [if_neg hc]
      exact ih
theorem split_all (l : List UInt8) : splitL l = pieces [] l := by
  have := split_pieces l [] NoSlash.nil
  rwa [List.nil_append] at this
theorem pieces_slash : ∀ (a p b : List UInt8), pieces p (a ++ 47 :: b) = pieces p a ++ pieces [] b
  | [], p, b => by simp [pieces]
  | c :: a, p, b => by
    rw [List.cons_append]
    simp only [pieces]
    by_cases hc : c = 47
    · rw [if_pos hc, if_pos hc, pieces_slash a [] b, List.append_assoc]
    · rw [if_neg hc, if_neg hc, pieces_slash a _ b]
theorem split_slash (a b : List UInt8) : splitL (a ++ 47 :: b) = splitL a ++ splitL b := by
  rw [split_all, split_all a, split_all b, pieces_slash]
/-- A name: not empty, not a dot, no slash in it. -/
def Name (x : ByteArray) : Prop := isName x.data.toList = true ∧ NoSlash x.data.toList
theorem nm_names (p : List UInt8) (h : NoSlash p) : ∀ x ∈ nm p, Name x := fun x hx => by
  unfold nm at hx
  split at hx
  · rename_i hn
    simp at hx
    subst hx
    exact ⟨hn, h⟩
  · cases hx
theorem pieces_names : ∀ (l p : List UInt8), NoSlash p → ∀ x ∈ pieces p l, Name x
  | [], p, h, x, hx => nm_names p h x hx
  | c :: t, p, h, x, hx => by
    simp only [pieces] at hx
    by_cases hc : c = 47
    · rw [if_pos hc] at hx
      rcases List.mem_append.1 hx with hx | hx
      · exact nm_names p h x hx
      · exact pieces_names t [] NoSlash.nil x hx
    · rw [if_neg hc] at hx
      exact pieces_names t _ (h.snoc hc) x hx
theorem split_names (l : List UInt8) : ∀ x ∈ splitL l, Name x := by
  rw [split_all]
  exact pieces_names l [] NoSlash.nil
theorem txt_data (x : ByteArray) : txt x.data.toList = x := by cases x; rfl
theorem split_name (x : ByteArray) (h : Name x) : splitL x.data.toList = [x] := by
  have := split_pieces [] x.data.toList h.2
  rw [List.append_nil] at this
  rw [this]
  unfold pieces nm
  rw [if_pos h.1, txt_data]
theorem joinTail_cons (x : ByteArray) (t : List ByteArray) : Lib.joinTail [47] ((x :: t).map (·.data.toList)) = 47 :: (x.data.toList ++ Lib.joinTail [47] (t.map (·.data.toList))) := by
  unfold Lib.joinTail
  simp
theorem joinL_cons (x : ByteArray) (t : List ByteArray) : joinL (x :: t) = x.data.toList ++ Lib.joinTail [47] (t.map (·.data.toList)) := by
  unfold joinL
  rw [List.map_cons, Lib.join_cons]
theorem joinL_two (x y : ByteArray) (t : List ByteArray) : joinL (x :: y :: t) = x.data.toList ++ 47 :: joinL (y :: t) := by
  rw [joinL_cons, joinL_cons, joinTail_cons]
theorem split_join : ∀ (l : List ByteArray), (∀ x ∈ l, Name x) → splitL (joinL l) = l
  | [], _ => rfl
  | [x], h => by
    rw [joinL_cons]
    have : Lib.joinTail [47] (([] : List ByteArray).map (·.data.toList)) = [] := rfl
    rw [this, List.append_nil]
    exact split_name x (h x (by simp))
  | x :: y :: t, h => by
    rw [joinL_two, split_slash, split_name x (h x (by simp)), split_join (y :: t) (fun z hz => h z (by simp at hz ⊢; exact Or.inr hz))]
    rfl
theorem name_head (x : ByteArray) (h : Name x) : ∃ c t, x.data.toList = c :: t ∧ c ≠ 47 := by
  have h1 := h.1
  cases e : x.data.toList with
  | nil => rw [e] at h1; cases h1
  | cons c t => exact ⟨c, t, rfl, h.2 c (by rw [e]; simp)⟩
theorem join_head (l : List ByteArray) (h : ∀ x ∈ l, Name x) : joinL l = [] ∨ ∃ c t, joinL l = c :: t ∧ c ≠ 47 := by
  cases l with
  | nil => exact .inl rfl
  | cons x t =>
    obtain ⟨c, u, hu, hc⟩ := name_head x (h x (by simp))
    rw [joinL_cons, hu]
    exact .inr ⟨c, _, rfl, hc⟩
theorem pre_head (c : UInt8) (t : List UInt8) (h : c ≠ 47) : Lib.hasPrefix (c :: t) [47] = false := by
  unfold Lib.hasPrefix
  simp [List.isPrefixOf, Ne.symm h]
theorem clean_join (l : List ByteArray) (h : ∀ x ∈ l, Name x) (hu : upB l = false) : cleanF (txt (joinL l)) = (txt (joinL l), true) := by
  have e : (txt (joinL l)).data.toList = joinL l := rfl
  unfold cleanF
  rw [e, split_join l h, hu]
  have hp : Lib.hasPrefix (joinL l) [47] = false := by
    rcases join_head l h with h0 | ⟨c, t, h0, hc⟩
    · rw [h0]; rfl
    · rw [h0]; exact pre_head c t hc
  rw [hp]
  simp
theorem known_eq : (str_Clean.f (⟨#[97, 47, 47, 46, 47, 98, 47]⟩ : ByteArray)) = some (⟨#[97, 47, 98]⟩, true) := by decide +kernel
end Go.Proofs.YtllcgkjomeegdaaDoor.P
