/- The pure statement of StrJoins: names of two paths, a slash between, are those of both; with slashes ahead, behind, and doubled, the same. No conditions. -/
import Derived.Test.YtllcgkjomeegdaaDoorHPathRef
import Derived.Test.YtllcgkjomeegdaaDoorPx3
namespace Go.Proofs.YtllcgkjomeegdaaDoor.Pure
open Go Go.RowKit Go.Proofs.YtllcgkjomeegdaaDoor.P Go.Proofs.YtllcgkjomeegdaaDoorW.PrintWords Go.Proofs.YtllcgkjomeegdaaDoorW.PrintLast

theorem data_app (a b : ByteArray) : (a ++ b).data.toList = a.data.toList ++ b.data.toList := by rw [ByteArray.data_append, Array.toList_append]
theorem split_one (p q : ByteArray) : splitL ((p ++ (⟨#[47]⟩ : ByteArray)) ++ q).data.toList = splitL p.data.toList ++ splitL q.data.toList := by
  rw [data_app, data_app]
  show splitL (p.data.toList ++ [47] ++ q.data.toList) = _
  rw [List.append_assoc]
  exact split_slash _ _
theorem split_two (p q : ByteArray) : splitL (((((⟨#[47, 47]⟩ : ByteArray) ++ p) ++ (⟨#[47, 46, 47]⟩ : ByteArray)) ++ q) ++ (⟨#[47]⟩ : ByteArray)).data.toList = splitL p.data.toList ++ splitL q.data.toList := by
  rw [data_app, data_app, data_app, data_app]
  show splitL ([47, 47] ++ p.data.toList ++ [47, 46, 47] ++ q.data.toList ++ [47]) = _
  have e : [47, 47] ++ p.data.toList ++ [47, 46, 47] ++ q.data.toList ++ [47] = [] ++ 47 :: ([] ++ 47 :: (p.data.toList ++ 47 :: ([46] ++ 47 :: (q.data.toList ++ 47 :: [])))) := by simp
  have e0 : splitL [] = [] := rfl
  have e1 : splitL [46] = [] := by decide +kernel
  rw [e, split_slash, split_slash, split_slash, split_slash, split_slash, e0, e1]
  simp
theorem joinsLoop (a b : List ByteArray) (ha : a.length ≤ 4294967296) (hb : b.length ≤ 4294967296) : ∀ (d i : Nat), (a ++ b).length - i = d → i ≤ (a ++ b).length → Ev (fun k => mudlarklaw02_StrJoins.l0 k a b (a ++ b) (a ++ b) (i : Int)) true
  | 0, i, hd, hi => by
    refine Ev.step (f := fun _ => (mudlarklaw02_known.f).bind fun t => some t) (fun k => ?_) (by rw [known_all]; exact Ev.now true)
    simp only [mudlarklaw02_StrJoins.l0]
    rw [if_neg (by omega)]
  | d + 1, i, hd, hi => by
    have hab : (a ++ b).length = a.length + b.length := List.length_append
    have hlt : i < (a ++ b).length := by omega
    have c1 : (i : Int) < ((a ++ b).length : Int) := by omega
    have c2 : (0 : Int) ≤ (i : Int) := by omega
    have ih := joinsLoop a b ha hb d (i + 1) (by omega) (by omega)
    have en := next_i i (by omega)
    refine Ev.step (fun k => ?_) ih
    simp only [mudlarklaw02_StrJoins.l0]
    by_cases h : i < a.length
    · have e : (a ++ b)[i] = a[i] := List.getElem_append_left h
      have r1 := rdOf_at (a ++ b) i hlt
      have r2 := rdOf_at a i h
      rw [e] at r1
      have c3 : (i : Int) < (a.length : Int) := by omega
      have c4 : ¬ ((i : Int) ≥ (a.length : Int)) := by omega
      rw [if_pos c1, if_pos c3, if_pos c2, r1, r2, if_pos rfl, if_neg c4, if_pos c1, if_pos trivial, en]
    · have e : (a ++ b)[i] = b[i - a.length]'(by omega) := List.getElem_append_right (by omega)
      have r1 := rdOf_at (a ++ b) i hlt
      have r2 := rdOf_at b (i - a.length) (by omega)
      rw [e] at r1
      have ew : wrap64 ((i : Int) - (a.length : Int)) = ((i - a.length : Nat) : Int) := by rw [wrap64_id _ (by omega) (by omega)]; omega
      have c3 : ¬ ((i : Int) < (a.length : Int)) := by omega
      have c4 : (i : Int) ≥ (a.length : Int) := by omega
      have c5 : (0 : Int) ≤ ((i - a.length : Nat) : Int) := by omega
      have c6 : ((i - a.length : Nat) : Int) < (b.length : Int) := by omega
      rw [if_pos c1, if_neg c3, if_pos c4, if_pos c2, ew, if_pos c5, if_pos c6, r1, r2, if_pos rfl, if_pos c1, if_pos trivial, en]
theorem joins_sizes (p q : ByteArray) (hp : p.size ≤ 36) (hq : q.size ≤ 36) :
    p.size + 1 ≤ 9223372036854775807 ∧ (p ++ (⟨#[47]⟩ : ByteArray)).size + q.size ≤ 9223372036854775807 ∧ 2 + p.size ≤ 9223372036854775807 ∧ ((⟨#[47, 47]⟩ : ByteArray) ++ p).size + 3 ≤ 9223372036854775807 ∧
    (((⟨#[47, 47]⟩ : ByteArray) ++ p) ++ (⟨#[47, 46, 47]⟩ : ByteArray)).size + q.size ≤ 9223372036854775807 ∧ ((((⟨#[47, 47]⟩ : ByteArray) ++ p) ++ (⟨#[47, 46, 47]⟩ : ByteArray)) ++ q).size + 1 ≤ 9223372036854775807 ∧
    ((p ++ (⟨#[47]⟩ : ByteArray)) ++ q).size ≤ 4294967296 ∧ (((((⟨#[47, 47]⟩ : ByteArray) ++ p) ++ (⟨#[47, 46, 47]⟩ : ByteArray)) ++ q) ++ (⟨#[47]⟩ : ByteArray)).size ≤ 4294967296 := by
  obtain ⟨a, ha⟩ : ∃ a, a = (⟨#[47]⟩ : ByteArray) := ⟨_, rfl⟩
  obtain ⟨b, hb⟩ : ∃ b, b = (⟨#[47, 47]⟩ : ByteArray) := ⟨_, rfl⟩
  obtain ⟨c, hc⟩ : ∃ c, c = (⟨#[47, 46, 47]⟩ : ByteArray) := ⟨_, rfl⟩
  have z1 : a.size = 1 := by rw [ha]; rfl
  have z2 : b.size = 2 := by rw [hb]; rfl
  have z3 : c.size = 3 := by rw [hc]; rfl
  rw [← ha, ← hb, ← hc]
  clear ha hb hc
  simp only [ByteArray.size_append]
  omega
theorem joins_len (a b : List ByteArray) (ha : a.length ≤ 4294967296) (hb : b.length ≤ 4294967296) : (((a ++ b).length : Nat) : Int) = wrap64 ((a.length : Int) + (b.length : Int)) := by
  rw [wrap64_id _ (by omega) (by omega), List.length_append]
  omega
theorem joins_end (a b : List ByteArray) (ha : a.length ≤ 4294967296) (hb : b.length ≤ 4294967296) : Ev (fun k => mudlarklaw02_StrJoins.j0 k a b (a ++ b) (a ++ b) false) true := by
  have h : ∀ z : Int, z = ((0 : Nat) : Int) → Ev (fun k => mudlarklaw02_StrJoins.l0 k a b (a ++ b) (a ++ b) z) true := fun z hz => by
    rw [hz]
    exact joinsLoop a b ha hb _ 0 rfl (Nat.zero_le _)
  refine Ev.step (fun k => ?_) (h 0 Int.natCast_zero.symm)
  simp only [mudlarklaw02_StrJoins.j0]
  rw [if_neg Bool.false_ne_true]
theorem StrJoins : mudlarklaw02_StrJoins.Pure := by
  intro l0 l1 _ h0 w0 _ h1 w1
  refine Ev.rounds (g := fun k => mudlarklaw02_StrJoins.f k l0 l1) ?_
  obtain ⟨p, hp, hp2⟩ := Path_ev l0 (wf_bytes w0) (by omega)
  obtain ⟨q, hq, hq2⟩ := Path_ev l1 (wf_bytes w1) (by omega)
  obtain ⟨b1, _⟩ := split_bounds p (by omega)
  obtain ⟨b2, _⟩ := split_bounds q (by omega)
  obtain ⟨y1, y2, y3, y4, y5, y6, x1, x2⟩ := joins_sizes p q hp2 hq2
  have s1 := Split_eq _ x1
  have s2 := Split_eq _ x2
  have sp := Split_eq p (by omega)
  have sq := Split_eq q (by omega)
  rw [split_one] at s1
  rw [split_two] at s2
  obtain ⟨A, hA⟩ : ∃ A, A = splitL p.data.toList := ⟨_, rfl⟩
  obtain ⟨B, hB⟩ : ∃ B, B = splitL q.data.toList := ⟨_, rfl⟩
  rw [← hA, ← hB] at s1 s2
  rw [← hA] at sp b1
  rw [← hB] at sq b2
  have y7 := joins_len A B b1 b2
  unfold mudlarklaw02_StrJoins.f
  refine Ev.bind hp (Ev.bind hq ?_)
  refine Ev.congr (fun k => ?_) (joins_end A B b1 b2)
  rw [sp, Option.bind_some, sq, Option.bind_some, if_pos y1, if_pos y2, s1, Option.bind_some, if_pos y3, if_pos y4, if_pos y5, if_pos y6, s2, Option.bind_some, if_pos y7, bne_self_eq_false]
end Go.Proofs.YtllcgkjomeegdaaDoor.Pure
