/- What the document's Pack and Expand answer, and Holes: in lists and numbers. No conditions. -/
import Derived.Test.YtlnbkmlidmgbaaaDoorHFill
import Derived.Test.YtlnbkmlidmgbaaaDoorHPack
import Derived.Test.YtlnbkmlidmgbaaaDoorPx6
namespace Go.Proofs.YtlnbkmlidmgbaaaDoor.P
open Go Go.RowKit Go.Proofs.YtlnbkmlidmgbaaaDoorW.PrintWords Go.Proofs.YtlnbkmlidmgbaaaDoorW.PrintLast Go.Proofs.YtlnbkmlidmgbaaaDoorW.PrintMore
set_option linter.unusedVariables false
set_option linter.unusedSimpArgs false

theorem empty_l0 (x : List Int) (hx : x.length ≤ 1048576) : ∀ (d i : Nat), i + d = x.length → Ev (fun k => mudlarkref09_empty.l0 k x (i : Int)) (noB (x.drop i)) := by
  intro d
  induction d with
  | zero =>
    intro i hi
    rw [List.drop_eq_nil_of_le (by omega)]
    exact Ev.step (f := fun _ => some true) (fun k => by simp only [mudlarkref09_empty.l0]; rw [if_neg (by omega)]) (Ev.now true)
  | succ d ih =>
    intro i hi
    have hil : i < x.length := by omega
    have hr : rd x (i : Int) = x[i] := by unfold rd; simp [List.getD, hil]
    rw [List.drop_eq_getElem_cons hil]
    by_cases c : x[i] = 0
    · have e : noB (x[i] :: x.drop (i + 1)) = noB (x.drop (i + 1)) := by unfold noB; rw [List.all_cons, decide_eq_true c, Bool.true_and]
      rw [e]
      exact Ev.step (f := fun k => mudlarkref09_empty.l0 k x ((i + 1 : Nat) : Int)) (fun k => by simp only [mudlarkref09_empty.l0]; rw [if_pos (by omega), if_pos (by omega), hr, if_pos c, next_i i (by omega)]) (ih (i + 1) (by omega))
    · have e : noB (x[i] :: x.drop (i + 1)) = false := by unfold noB; rw [List.all_cons, decide_eq_false c, Bool.false_and]
      rw [e]
      exact Ev.step (f := fun _ => some false) (fun k => by simp only [mudlarkref09_empty.l0]; rw [if_pos (by omega), if_pos (by omega), hr, if_neg c]) (Ev.now false)
theorem empty_ev (x : List Int) (hx : x.length ≤ 1048576) : Ev (fun k => mudlarkref09_empty.f k x) (noB x) := empty_l0 x hx x.length 0 (by omega)
set_option maxRecDepth 100000 in
theorem rpack_l0 (b : List Int) (hb : b.length ≤ 1048576) : ∀ (d f j : Nat) (out : List S40) (data : List Int) (op : Bool), b.length ≤ j + 512 * d → d < f → out.length ≤ j → data.length ≤ j → (op = true → 0 < out.length) → (∀ p ∈ out, 0 ≤ p.f1 ∧ p.f1 ≤ (j : Int)) → j ≤ b.length + 512 →
    Ev (fun k => mudlarkref09_Pack.l0 k b out data op (j : Int)) (packR b f j out data op) := by
  intro d
  induction d with
  | zero =>
    intro f j out data op h0 hf h1 h2 h3 h4 h5
    obtain ⟨f, rfl⟩ : ∃ m, f = m + 1 := ⟨f - 1, by omega⟩
    simp only [packR]
    rw [if_neg (by omega)]
    exact Ev.step (f := fun _ => some (out, data)) (fun k => by simp only [mudlarkref09_Pack.l0]; rw [if_neg (by omega)]) (Ev.now _)
  | succ d ih =>
    intro f j out data op h0 hf h1 h2 h3 h4 h5
    obtain ⟨f, rfl⟩ : ∃ m, f = m + 1 := ⟨f - 1, by omega⟩
    by_cases c : j < b.length
    · have hbb := blk_bounds b j c (by omega)
      have hbe := blk_eq b j
      obtain ⟨x, hx⟩ : ∃ x, x = (b.drop j).take 512 := ⟨_, rfl⟩
      have hxl : x.length ≤ 512 := by rw [hx, List.length_take]; omega
      have w5 : wrap64 ((j : Int) + 512) = ((j + 512 : Nat) : Int) := by rw [wrap64_id _ (by omega) (by omega)]; push_cast; rfl
      have hstep : ∀ k, mudlarkref09_Pack.l0 (k + 1) b out data op (j : Int) = (mudlarkref09_empty.f k x).bind fun t => if t = true then mudlarkref09_Pack.l0 k b out data false ((j + 512 : Nat) : Int) else mudlarkref09_Pack.l0 k b (addLast (opn op out j) (x.length : Int)) (data ++ x) true ((j + 512 : Nat) : Int) := by
        intro k
        simp only [mudlarkref09_Pack.l0]
        rw [if_pos (by omega), if_pos (by omega), hbb, if_pos (by omega), if_pos (by omega), Int.toNat_natCast, Int.toNat_natCast, hbe, ← hx, w5]
        refine congrArg (Option.bind _) (funext fun t => ?_)
        by_cases c2 : t = true
        · rw [if_pos c2, if_pos c2]
        · rw [if_neg c2, if_neg c2]
          cases op with
          | true =>
            have hp := h3 rfl
            have e : wrap64 ((out.length : Int) - 1) = ((out.length - 1 : Nat) : Int) := by rw [wrap64_id _ (by omega) (by omega)]; omega
            have ha := addLast_eq out (x.length : Int) hp (by omega) (fun p hq => by have := h4 p hq; omega) (by omega)
            rw [show opn true out j = out from rfl, if_pos rfl, if_pos (by omega), if_pos (by omega), if_pos (by omega), ha]
          | false =>
            have hol : (out ++ [(⟨(j : Int), 0⟩ : S40)]).length = out.length + 1 := by simp
            have ha := addLast_eq (out ++ [⟨(j : Int), 0⟩]) (x.length : Int) (by omega) (by omega) (fun p hq => by
              rcases List.mem_append.1 hq with h | h
              · have := h4 p h; omega
              · rw [List.mem_singleton] at h; subst h; simp only; omega) (by omega)
            have e : wrap64 (((out ++ [(⟨(j : Int), 0⟩ : S40)]).length : Int) - 1) = (out.length : Int) := by rw [hol, wrap64_id _ (by omega) (by omega)]; push_cast; omega
            rw [show opn false out j = out ++ [(⟨(j : Int), 0⟩ : S40)] from rfl, if_neg (by simp), if_pos (by omega), Option.bind_some, if_pos (by omega), if_pos (by omega), if_pos (by omega), ha]
      simp only [packR]
      rw [if_pos c, ← hx]
      refine Ev.step (f := fun k => (mudlarkref09_empty.f k x).bind fun t => if t = true then mudlarkref09_Pack.l0 k b out data false ((j + 512 : Nat) : Int) else mudlarkref09_Pack.l0 k b (addLast (opn op out j) (x.length : Int)) (data ++ x) true ((j + 512 : Nat) : Int)) hstep ?_
      refine Ev.bind (empty_ev x (by omega)) ?_
      by_cases c2 : noB x = true
      · rw [if_pos c2]
        simp only [if_pos c2]
        exact ih f (j + 512) out data false (by omega) (by omega) (by omega) (by omega) (fun h => by cases h) (fun p hp => by have := h4 p hp; omega) (by omega)
      · rw [if_neg c2]
        simp only [if_neg c2]
        obtain ⟨o, ho⟩ : ∃ o, o = (opn op out j) := ⟨_, rfl⟩
        have hol : 0 < o.length ∧ o.length ≤ out.length + 1 := by
          rw [ho]
          cases op with
          | true => exact ⟨h3 rfl, Nat.le_succ _⟩
          | false => simp [opn]
        have hom : ∀ p ∈ o, 0 ≤ p.f1 ∧ p.f1 ≤ (j : Int) := by
          rw [ho]
          cases op with
          | true => exact h4
          | false =>
            intro p hq
            rcases List.mem_append.1 hq with h | h
            · exact h4 p h
            · rw [List.mem_singleton] at h; subst h; simp only; omega
        rw [← ho]
        exact ih f (j + 512) (addLast o (x.length : Int)) (data ++ x) true (by omega) (by omega) (by rw [addLast_length]; omega) (by rw [List.length_append]; omega) (fun _ => by rw [addLast_length]; exact hol.1) (fun p hp => by have := addLast_mem o (x.length : Int) (j : Int) hom (by omega) p hp; omega) (by omega)
    · simp only [packR]
      rw [if_neg c]
      exact Ev.step (f := fun _ => some (out, data)) (fun k => by simp only [mudlarkref09_Pack.l0]; rw [if_neg (by omega)]) (Ev.now _)
theorem RPack_ev (b : List Int) (hb : b.length ≤ 1048576) : Ev (fun k => mudlarkref09_Pack.f k b) (packM b) :=
  rpack_l0 b hb b.length (b.length + 1) 0 [] [] false (by omega) (by omega) (by simp) (by simp) (fun h => by cases h) (fun p hp => by cases hp) (by omega)
theorem packR_len (b : List Int) : ∀ (f j : Nat) (out : List S40) (data : List Int) (op : Bool), (packR b f j out data op).1.length ≤ out.length + f
  | 0, j, out, data, op => by simp [packR]
  | f + 1, j, out, data, op => by
    simp only [packR]
    split
    · split
      · have := packR_len b f (j + 512) out data false; omega
      · have h := packR_len b f (j + 512) (addLast (opn op out j) (((b.drop j).take 512).length : Int)) (data ++ (b.drop j).take 512) true
        rw [addLast_length] at h
        have : (opn op out j).length ≤ out.length + 1 := by cases op <;> simp [opn]
        omega
    · simp
theorem packs_ev (b : List Int) (hb : b.length ≤ 1048576) : Ev (fun k => mudlarklaw09_packs.f k b) true := by
  unfold mudlarklaw09_packs.f
  refine Ev.bind (g := fun k => sparse_Pack.f k b) (Pack_ev b hb) ?_
  refine Ev.bind (g := fun k => mudlarkref09_Pack.f k b) (RPack_ev b hb) ?_
  have hl : (packM b).1.length ≤ 9223372036854775806 := by
    have := packR_len b (b.length + 1) 0 [] [] false
    unfold packM
    simp only [List.length_nil] at this
    omega
  refine Ev.bind (g := fun k => mudlarkref09_Same.f k (packM b).1 (packM b).1) (Same_ev _ hl) ?_
  simp only [if_true, beq_self_eq_true]
  exact Ev.now true

/-! ### Expand -/
theorem splice_cons (L : List Int) (p : Nat) (x : Int) (xs : List Int) (h : p < L.length) : splice (L.set p x) (p + 1) xs = splice L p (x :: xs) := by
  have h1 : (L.take p).length = p := by rw [List.length_take]; omega
  have e1 : (L.take p ++ x :: L.drop (p + 1)).take (p + 1) = L.take p ++ [x] := by
    have := List.take_length_add_append (l₁ := L.take p) (l₂ := x :: L.drop (p + 1)) 1
    rw [h1] at this
    simpa using this
  have e2 : (L.take p ++ x :: L.drop (p + 1)).drop (p + 1 + xs.length) = L.drop (p + (x :: xs).length) := by
    have := List.drop_length_add_append (l₁ := L.take p) (l₂ := x :: L.drop (p + 1)) (xs.length + 1)
    rw [h1, List.drop_succ_cons, List.drop_drop] at this
    rw [show p + 1 + xs.length = p + (xs.length + 1) by omega, this, List.length_cons]
    congr 1
    omega
  unfold splice
  rw [List.set_eq_take_append_cons_drop, if_pos h, e1, e2, List.append_assoc]
  rfl
theorem splice_nil (L : List Int) (p : Nat) : splice L p [] = L := by unfold splice; simp
theorem expandL_ok : ∀ (l : List S40) (e real : Int) (out d : List Int), okF l e real = true → 0 ≤ e → out.length = real.toNat → sumF l = d.length → ∃ r, expandL l out d = some r ∧ r.length = out.length
  | [], _, _, out, d, _, _, _, _ => ⟨out, rfl, rfl⟩
  | p :: l, e, real, out, d, h, h0, h1, h2 => by
    simp only [okF, Bool.and_eq_true, decide_eq_true_eq] at h
    obtain ⟨⟨a1, a2, a3, a4⟩, h5⟩ := h
    have hs := sumF_nonneg l _ real h5
    simp only [sumF] at h2
    simp only [expandL]
    rw [if_pos ⟨by omega, a2, by omega, by omega⟩]
    have hsl : (splice out p.f0.toNat (d.take p.f1.toNat)).length = out.length := length_splice _ _ _ (by rw [List.length_take]; omega)
    obtain ⟨r, r1, r2⟩ := expandL_ok l (p.f0 + p.f1) real (splice out p.f0.toNat (d.take p.f1.toNat)) (d.drop p.f1.toNat) h5 (by omega) (by rw [hsl]; exact h1) (by rw [List.length_drop]; omega)
    exact ⟨r, r1, by rw [r2, hsl]⟩
theorem wrap_add (a b : Nat) (h : a + b ≤ 1048576) : wrap64 ((a : Int) + (b : Int)) = ((a + b : Nat) : Int) := by
  rw [wrap64_id _ (by omega) (by omega)]
  push_cast
  rfl
theorem rexp_l1 (l : List S40) (d : List Int) (hd : d.length ≤ 140737488355328) (i : Nat) (hi : i < l.length) (m0 m1 : Nat) (hp0 : (rd_T40 l (i : Int)).f0 = (m0 : Int)) (hp1 : (rd_T40 l (i : Int)).f1 = (m1 : Int)) (r : List Int × Int) (hl : l.length ≤ 1000) :
    ∀ (dd m : Nat) (out : List Int) (at_ : Nat), m + dd = m1 → at_ + dd ≤ d.length → m0 + m1 ≤ out.length → out.length ≤ 1048576 →
      Ev (fun k => mudlarkref09_Expand.l0 k l d (splice out (m0 + m) ((d.drop at_).take dd)) ((at_ + dd : Nat) : Int) ((i + 1 : Nat) : Int)) r →
      Ev (fun k => mudlarkref09_Expand.l1 k l d out (at_ : Int) (i : Int) (m : Int)) r := by
  intro dd
  induction dd with
  | zero =>
    intro m out at_ h0 h1 h2 h3 hr
    rw [List.take_zero, splice_nil, Nat.add_zero] at hr
    refine Ev.step (f := fun k => mudlarkref09_Expand.l0 k l d out (at_ : Int) ((i + 1 : Nat) : Int)) (fun k => ?_) hr
    simp only [mudlarkref09_Expand.l1]
    rw [if_pos (by omega), if_pos (by omega), if_neg (by rw [hp1]; omega), next_i i (by omega)]
  | succ dd ih =>
    intro m out at_ h0 h1 h2 h3 hr
    have hda : at_ < d.length := by omega
    have hrd : rd d (at_ : Int) = d[at_] := by unfold rd; simp [List.getD, hda]
    have g1 : m + 1 + dd = m1 := by omega
    have g2 : at_ + 1 + dd ≤ d.length := by omega
    have g3 : m0 + m < out.length := by omega
    have g4 : at_ + 1 + dd = at_ + (dd + 1) := by omega
    have f1 : (0 : Int) ≤ (i : Int) := by omega
    have f2 : (i : Int) < (l.length : Int) := by omega
    have f3 : (m : Int) < (m1 : Int) := by omega
    have f4 : (0 : Int) ≤ (at_ : Int) := by omega
    have f5 : (at_ : Int) < (d.length : Int) := by omega
    have f6 : (0 : Int) ≤ ((m0 + m : Nat) : Int) := by omega
    have f7 : ((m0 + m : Nat) : Int) < (out.length : Int) := by omega
    have f8 := next_i at_ (by omega)
    have f9 := next_i m (by omega)
    have hw := wrap_add m0 m (Nat.le_trans (Nat.le_of_lt g3) h3)
    refine Ev.step (f := fun k => mudlarkref09_Expand.l1 k l d (out.set (m0 + m) d[at_]) ((at_ + 1 : Nat) : Int) (i : Int) ((m + 1 : Nat) : Int)) (fun k => ?_) (ih (m + 1) (out.set (m0 + m) d[at_]) (at_ + 1) g1 g2 (by rw [List.length_set]; exact h2) (by rw [List.length_set]; exact h3) ?_)
    · simp only [mudlarkref09_Expand.l1]
      rw [if_pos f1, if_pos f2, hp1, if_pos f3, if_pos f4, if_pos f5, hp0, hw, if_pos f6, if_pos f7, Int.toNat_natCast, hrd, f8, f9]
    · have e : splice (out.set (m0 + m) d[at_]) (m0 + (m + 1)) ((d.drop (at_ + 1)).take dd) = splice out (m0 + m) ((d.drop at_).take (dd + 1)) := by
        rw [List.drop_eq_getElem_cons hda, List.take_succ_cons]
        exact splice_cons out (m0 + m) _ _ g3
      rw [e, g4]
      exact hr
theorem rexp_l0 (l : List S40) (d : List Int) (hd : d.length ≤ 140737488355328) (hl : l.length ≤ 1000) (res : List Int) : ∀ (dd i : Nat) (out : List Int) (at_ : Nat), i + dd = l.length → at_ ≤ d.length → out.length ≤ 1048576 → expandL (l.drop i) out (d.drop at_) = some res →
    Ev (fun k => mudlarkref09_Expand.l0 k l d out (at_ : Int) (i : Int)) (res, 0) := by
  intro dd
  induction dd with
  | zero =>
    intro i out at_ hi h1 h2 h3
    rw [List.drop_eq_nil_of_le (by omega)] at h3
    obtain rfl := Option.some.inj h3
    exact Ev.step (f := fun _ => some (out, 0)) (fun k => by simp only [mudlarkref09_Expand.l0]; rw [if_neg (by omega)]) (Ev.now _)
  | succ dd ih =>
    intro i out at_ hi h1 h2 h3
    have hil : i < l.length := by omega
    rw [expandL_drop l i hil] at h3
    simp only [expandL] at h3
    by_cases c : 0 ≤ (rd_T40 l (i : Int)).f0 ∧ 0 ≤ (rd_T40 l (i : Int)).f1 ∧ (rd_T40 l (i : Int)).f1 ≤ ((d.drop at_).length : Int) ∧ (rd_T40 l (i : Int)).f0 + (rd_T40 l (i : Int)).f1 ≤ (out.length : Int)
    · rw [if_pos c] at h3
      obtain ⟨q1, q2, q3, q4⟩ := c
      obtain ⟨m0, hm0⟩ : ∃ m : Nat, (rd_T40 l (i : Int)).f0 = (m : Int) := ⟨_, (Int.toNat_of_nonneg q1).symm⟩
      obtain ⟨m1, hm1⟩ : ∃ m : Nat, (rd_T40 l (i : Int)).f1 = (m : Int) := ⟨_, (Int.toNat_of_nonneg q2).symm⟩
      rw [hm0, hm1, Int.toNat_natCast, Int.toNat_natCast, List.drop_drop] at h3
      rw [List.length_drop] at q3
      refine Ev.step (f := fun k => mudlarkref09_Expand.l1 k l d out (at_ : Int) (i : Int) ((0 : Nat) : Int)) (fun k => by simp only [mudlarkref09_Expand.l0]; rw [if_pos (by omega)]; rfl) ?_
      refine rexp_l1 l d hd i hil m0 m1 hm0 hm1 _ hl m1 0 out at_ (by omega) (by omega) (by omega) h2 ?_
      refine ih (i + 1) _ (at_ + m1) (by omega) (by omega) ?_ ?_
      · rw [length_splice _ _ _ (by rw [List.length_take, List.length_drop]; omega)]
        exact h2
      · rw [Nat.add_zero]
        exact h3
    · rw [if_neg c] at h3
      cases h3
/-- Both ways of expanding: the same bytes, the same error. -/
theorem expand_both (l : List S40) (real : Int) (d : List Int) (hd : d.length ≤ 140737488355328) : ∃ (r : List Int) (e : Int), sparse_Expand.f l real d = some (r, e) ∧ Ev (fun k => mudlarkref09_Expand.f k l real d) (r, e) ∧ wrap64 e = e := by
  have hc := Check_at l d.length real (by omega) (by omega) (l.length + 2) (by omega)
  have hR := RCheck_ev l d.length real
  have hw : ∀ x : Int, 0 ≤ x → x ≤ 11 → wrap64 x = x := fun x h0 h1 => wrap64_id x (by omega) (by omega)
  by_cases c : checkM l d.length real = 0
  · obtain ⟨c1, c2, c3, c4, c5⟩ := checkM_zero.1 c
    by_cases c6 : real > 1048576
    · refine ⟨[], 3, ?_, ?_, hw 3 (by decide) (by decide)⟩
      · unfold sparse_Expand.f
        rw [hc, c, Option.bind_some, if_pos rfl, if_pos c6]
      · unfold mudlarkref09_Expand.f
        refine Ev.bind hR ?_
        rw [c]
        simp only [if_true, if_pos c6]
        exact Ev.now _
    · obtain ⟨r, r1, _⟩ := expandL_ok l 0 real (List.replicate real.toNat 0) d c4 (by omega) List.length_replicate c5
      refine ⟨r, 0, expand_f l real d hd r c (by omega) r1, ?_, hw 0 (by decide) (by decide)⟩
      unfold mudlarkref09_Expand.f
      refine Ev.bind hR ?_
      rw [c]
      simp only [if_true, if_neg c6, if_pos c2, if_pos (show real.toNat ≤ 281474976710656 by omega)]
      exact rexp_l0 l d hd c1 r l.length 0 (List.replicate real.toNat 0) 0 (by omega) (by omega) (by rw [List.length_replicate]; omega) (by rw [List.drop_zero, List.drop_zero]; exact r1)
  · refine ⟨[], checkM l d.length real, ?_, ?_, ?_⟩
    · unfold sparse_Expand.f
      rw [hc, Option.bind_some, if_neg c]
    · unfold mudlarkref09_Expand.f
      refine Ev.bind hR ?_
      simp only [if_neg c]
      exact Ev.now _
    · unfold checkM
      split
      · exact hw 3 (by decide) (by decide)
      · split
        · exact hw 11 (by decide) (by decide)
        · cases (okF l 0 real && (sumF l == d.length))
          · exact hw 11 (by decide) (by decide)
          · exact hw 0 (by decide) (by decide)
/-! ### Holes -/
theorem holes_l0 (c : List Int) (hc : ∀ x ∈ c, (Lit.int .u8 x).wf = true) (hcl : c.length ≤ 140737488351232) (m : Nat) (hm : m ≤ 4000) : ∀ (d i : Nat) (out : List Int), i + d = c.length → out.length = m → ∃ b, Ev (fun k => mudlarklaw09_Holes.l0 k c out (i : Int)) b ∧ b.length = m := by
  intro d
  induction d with
  | zero =>
    intro i out hi ho
    exact ⟨out, Ev.step (f := fun _ => some out) (fun k => by simp only [mudlarklaw09_Holes.l0]; rw [if_neg (by omega)]) (Ev.now out), ho⟩
  | succ d ih =>
    intro i out hi ho
    obtain ⟨x0, x1⟩ := rdb hc i (by omega)
    obtain ⟨x, hx⟩ : ∃ x, x = rd c (i : Int) := ⟨_, rfl⟩
    rw [← hx] at x0 x1
    have t0 := Int.tmod_nonneg 8 x0
    have t1 := Int.tmod_lt_of_pos x (show (0 : Int) < 8 by omega)
    obtain ⟨q, hq⟩ : ∃ q, q = Int.tmod x 8 := ⟨_, rfl⟩
    rw [← hq] at t0 t1
    have hw : wrap64 (wrap64 (512 * wrap64 q) + wrap64 x) = 512 * q + x := by rw [wrap64_id q (by omega) (by omega), wrap64_id x (by omega) (by omega), wrap64_id (512 * q) (by omega) (by omega), wrap64_id _ (by omega) (by omega)]
    by_cases c1 : 512 * q + x < (out.length : Int)
    · obtain ⟨b, hb, hbl⟩ := ih (i + 1) (out.set (512 * q + x).toNat x) (by omega) (by rw [List.length_set]; exact ho)
      refine ⟨b, Ev.step (f := fun k => mudlarklaw09_Holes.l0 k c (out.set (512 * q + x).toNat x) ((i + 1 : Nat) : Int)) (fun k => ?_) hb, hbl⟩
      simp only [mudlarklaw09_Holes.l0]
      rw [if_pos (by omega), if_pos (by omega), ← hx, ← hq, hw, if_pos c1, if_pos (by omega), next_i i (by omega)]
    · obtain ⟨b, hb, hbl⟩ := ih (i + 1) out (by omega) ho
      refine ⟨b, Ev.step (f := fun k => mudlarklaw09_Holes.l0 k c out ((i + 1 : Nat) : Int)) (fun k => ?_) hb, hbl⟩
      simp only [mudlarklaw09_Holes.l0]
      rw [if_pos (by omega), if_pos (by omega), ← hx, ← hq, hw, if_neg c1, next_i i (by omega)]
theorem Holes_ev (c : List Int) (a : Int) (hc : ∀ x ∈ c, (Lit.int .u8 x).wf = true) (hcl : c.length * 1 ≤ 140737488351232) (ha : (Lit.int .u16 a).wf = true) : ∃ b, Ev (fun k => mudlarklaw09_Holes.f k c a) b ∧ b.length ≤ 4000 := by
  have hw := wf_u16 ha
  have t0 := Int.tmod_nonneg 4000 hw.1
  have t1 := Int.tmod_lt_of_pos a (show (0 : Int) < 4000 by omega)
  obtain ⟨m, hm⟩ : ∃ m : Nat, wrap64 (Int.tmod a 4000) = (m : Int) := ⟨(Int.tmod a 4000).toNat, by rw [wrap64_id _ (by omega) (by omega)]; omega⟩
  have hm2 : m ≤ 4000 := by rw [wrap64_id _ (by omega) (by omega)] at hm; omega
  obtain ⟨b, hb, hbl⟩ := holes_l0 c hc (by omega) m hm2 c.length 0 (List.replicate m 0) (by omega) List.length_replicate
  refine ⟨b, ?_, by omega⟩
  unfold mudlarklaw09_Holes.f
  rw [hm]
  refine Ev.congr (f := fun k => mudlarklaw09_Holes.l0 k c (List.replicate m 0) ((0 : Nat) : Int)) (fun k => ?_) hb
  rw [if_pos (by omega), Int.toNat_natCast, if_pos (by omega)]
  rfl
end Go.Proofs.YtlnbkmlidmgbaaaDoor.P
