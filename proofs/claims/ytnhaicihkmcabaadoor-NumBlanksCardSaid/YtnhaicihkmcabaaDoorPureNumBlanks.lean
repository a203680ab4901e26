/- The pure statement of NumBlanks: blanks ahead, and blanks and noughts behind, make no difference; anything else does. No conditions. -/
import Derived.Test.YtnhaicihkmcabaaDoorHNumParse
namespace Go.Proofs.YtnhaicihkmcabaaDoor.Pure
open Go Go.RowKit Go.Proofs.YtnhaicihkmcabaaDoor.P Go.Proofs.YtnhaicihkmcabaaDoorW.PrintWords Go.Proofs.YtnhaicihkmcabaaDoorW.PrintLast Go.Proofs.YtnhaicihkmcabaaDoorW.PrintMore

def pads : Nat → List Int
  | 0 => []
  | b + 1 => 32 :: 0 :: pads b
theorem pads_snoc : ∀ b, pads b ++ [32, 0] = pads (b + 1)
  | 0 => rfl
  | b + 1 => by show 32 :: 0 :: (pads b ++ [32, 0]) = _; rw [pads_snoc b]; rfl
theorem pads_length : ∀ b, (pads b).length = 2 * b
  | 0 => rfl
  | b + 1 => by simp only [pads, List.length_cons, pads_length b]; omega
theorem pads_blank : ∀ b, (pads b).all blankB = true
  | 0 => rfl
  | b + 1 => by simp only [pads, List.all_cons, pads_blank b, Bool.and_true]; rfl
theorem pads_bytes : ∀ b, Bytes (pads b)
  | 0 => fun x hx => by simp [pads] at hx
  | b + 1 => fun x hx => by
    rcases List.mem_cons.1 hx with rfl | hx
    · omega
    · rcases List.mem_cons.1 hx with rfl | hx
      · omega
      · exact pads_bytes b x hx
theorem app_bytes {l m : List Int} (h : Bytes l) (k : Bytes m) : Bytes (l ++ m) := fun x hx => (List.mem_append.1 hx).elim (h x) (k x)
theorem one_bytes (v : Int) (h : 0 ≤ v ∧ v < 256) : Bytes [v] := fun x hx => by rw [List.mem_singleton.1 hx]; exact h
theorem rep_bytes (n : Nat) : Bytes (List.replicate n 32) := fun x hx => by rw [(List.mem_replicate.1 hx).2]; omega
theorem octF_blanks : ∀ (a : Nat) (l : List Int), octF (List.replicate a 32 ++ l) = octF l
  | 0, l => rfl
  | a + 1, l => by
    rw [← octF_blanks a l, List.replicate_succ, List.cons_append]
    unfold octF
    rw [List.dropWhile_cons_of_pos (by decide)]
theorem octF_at (m : Nat) (n : Int) (h0 : 0 ≤ n) (h1 : n < 8 ^ (m + 1)) (h2 : n ≤ 4611686018427387904) (rest : List Int) : octF (digs (m + 1) n ++ rest) = octRes (octLoop rest n) := by
  have hhead : (digs (m + 1) n ++ rest).dropWhile (fun x => decide (x = 32)) = digs (m + 1) n ++ rest := by
    cases e : digs (m + 1) n with
    | nil => have := digs_length (m + 1) n; rw [e] at this; simp at this
    | cons c t =>
      have hc := digs_small (m + 1) n c (by rw [e]; exact List.mem_cons_self ..)
      rw [List.cons_append, List.dropWhile_cons_of_neg]
      simp
      omega
  unfold octF
  rw [hhead, octLoop_digs (m + 1) n 0 rest h0 h1 (by omega) (by omega), Int.zero_mul, Int.zero_add]
theorem octRes_rest (n : Int) (c : Int) (t : List Int) (hc : c < 48 ∨ 55 < c) : octRes (octLoop (c :: t) n) = if (c :: t).all blankB = true then (n, true) else (0, false) := by
  rw [octLoop, if_neg (by omega)]
  rfl
theorem octRes_blank (n : Int) (r : List Int) (h : r.all blankB = true) : octRes (octLoop r n) = (n, true) := by
  match r, h with
  | [], _ => rfl
  | c :: t, h =>
    have hc : blankB c = true := by rw [List.all_cons, Bool.and_eq_true] at h; exact h.1
    rw [octRes_rest n c t (by unfold blankB at hc; simp at hc; omega), if_pos h]
theorem blank_eq (c : Int) : blankB c = (decide (c = 32) || decide (c = 0)) := rfl

def whole (a b : Nat) (x : Int) : List Int := List.replicate a 32 ++ digs 12 x ++ pads b
theorem whole_told (a b : Nat) (x : Int) (h0 : 0 ≤ x) (h1 : x < 4294967296) : octF (whole a b x) = (x, true) := by
  unfold whole
  rw [List.append_assoc, octF_blanks, octF_at 11 x h0 (by have : (8 : Int) ^ (11 + 1) = 68719476736 := by decide
                                                          omega) (by omega), octRes_blank _ _ (pads_blank b)]
theorem whole_more (a b : Nat) (x odd : Int) (h0 : 0 ≤ x) (h1 : x < 4294967296) (ho : 0 ≤ odd ∧ odd < 256) :
    (octF (whole a b x ++ [odd])).2 = if odd = 32 ∨ odd = 0 then true else if b = 0 ∧ 48 ≤ odd ∧ odd ≤ 55 then true else false := by
  unfold whole
  rw [List.append_assoc, List.append_assoc, octF_blanks, octF_at 11 x h0 (by have : (8 : Int) ^ (11 + 1) = 68719476736 := by decide
                                                                             omega) (by omega)]
  by_cases hb : odd = 32 ∨ odd = 0
  · rw [if_pos hb, octRes_blank]
    rw [List.all_append, pads_blank, List.all_cons, blank_eq]
    rcases hb with rfl | rfl <;> rfl
  · rw [if_neg hb]
    have hnb : blankB odd = false := by rw [blank_eq]; simp; omega
    have hna : (pads b ++ [odd]).all blankB = false := by rw [List.all_append, List.all_cons, hnb]; simp
    match b, hna with
    | 0, hna =>
      by_cases hd : 48 ≤ odd ∧ odd ≤ 55
      · rw [if_pos ⟨rfl, hd.1, hd.2⟩]
        show (octRes (octLoop [odd] x)).2 = true
        rw [octLoop, if_pos hd, if_neg (by omega)]
        rfl
      · rw [if_neg (fun q => hd q.2)]
        show (octRes (octLoop [odd] x)).2 = false
        have hna' : ¬ ([odd].all blankB = true) := by rw [show [odd].all blankB = false from hna]; decide
        rw [octRes_rest x odd [] (by omega), if_neg hna']
    | b + 1, hna =>
      rw [if_neg (fun q => by cases q.1)]
      have hna' : ¬ ((32 :: (0 :: pads b ++ [odd])).all blankB = true) := by rw [show (32 :: (0 :: pads b ++ [odd])).all blankB = false from hna]; decide
      show (octRes (octLoop (32 :: (0 :: pads b ++ [odd])) x)).2 = false
      rw [octRes_rest x 32 _ (by omega), if_neg hna']
theorem whole_bytes (a b : Nat) (x : Int) : Bytes (whole a b x) := app_bytes (app_bytes (rep_bytes a) (fun y hy => by have := digs_small 12 x y hy; omega)) (pads_bytes b)
theorem whole_length (a b : Nat) (x : Int) : (whole a b x).length = a + 12 + 2 * b := by
  unfold whole
  rw [List.length_append, List.length_append, List.length_replicate, digs_length, pads_length]

theorem blanksTail (x a2 a3 : Int) (a m : Nat) (ha : a ≤ 4) (hm : m ≤ 4) (e2 : wrap64 (Int.tmod a2 5) = (m : Int)) (e3 : Int.tmod a2 5 = (m : Int)) (ew : wrap64 x = x) (h0 : 0 ≤ x) (h1 : x < 4294967296) (ho : 0 ≤ a3 ∧ a3 < 256) : ∀ (d i : Nat), m - i = d → i ≤ m →
    Ev (fun k => mudlarklaw01_NumBlanks.l1 k x a2 a3 (whole a i x) (i : Int)) true
  | 0, i, hd, hi => by
    have ei : i = m := by omega
    subst ei
    have hw := whole_told a i x h0 h1
    have hm2 := whole_more a i x a3 h0 h1 ho
    have hO := Octal_eq _ (whole_bytes a i x)
    have hO2 := Octal_eq _ (app_bytes (whole_bytes a i x) (one_bytes a3 ho))
    have c1 : ¬ (i : Int) < (i : Int) := by omega
    have c2 : (whole a i x).length < 140737488355328 := by rw [whole_length]; omega
    have c3 : (Int.tmod a2 5 = 0) = (i = 0) := by rw [e3]; exact propext ⟨fun h => by omega, fun h => by omega⟩
    clear e3
    refine Ev.step (f := fun _ => some true) (fun k => ?_) (Ev.now _)
    simp only [mudlarklaw01_NumBlanks.l1]
    rw [e2, if_neg c1, hO, hO2, Option.bind_some, if_pos c2, Option.bind_some, hw, hm2]
    clear e2
    simp only [mudlarklaw01_known.f, Option.bind_some, if_true, ew, c3]
    by_cases h32 : a3 = 32
    · simp [h32]
    · by_cases hz : a3 = 0
      · simp [hz]
      · have hn : ¬ (a3 = 32 ∨ a3 = 0) := by omega
        rw [if_neg h32, if_neg hz, if_neg hn]
        by_cases hi0 : i = 0
        · rw [if_pos hi0]
          by_cases h48 : a3 ≥ 48
          · rw [if_pos h48]
            by_cases h55 : a3 ≤ 55
            · rw [if_pos ⟨hi0, h48, h55⟩, decide_eq_true h55]; rfl
            · rw [if_neg (fun q => h55 q.2.2), decide_eq_false h55]; rfl
          · rw [if_neg h48, if_neg (fun q => h48 q.2.1)]; rfl
        · rw [if_neg hi0, if_neg (fun q => hi0 q.1)]; rfl
  | d + 1, i, hd, hi => by
    have ih := blanksTail x a2 a3 a m ha hm e2 e3 ew h0 h1 ho d (i + 1) (by omega) (by omega)
    have c1 : (i : Int) < (m : Int) := by omega
    have c2 : (whole a i x).length + [(32 : Int), 0].length < 140737488355328 := by rw [whole_length]; simp only [List.length_cons, List.length_nil]; omega
    have en : wrap64 ((i : Int) + 1) = ((i + 1 : Nat) : Int) := by rw [wrap64_id _ (by omega) (by omega)]; omega
    have el : whole a i x ++ [32, 0] = whole a (i + 1) x := by unfold whole; rw [List.append_assoc, pads_snoc]
    refine Ev.step (fun k => ?_) ih
    simp only [mudlarklaw01_NumBlanks.l1]
    rw [e2, if_pos c1, Option.bind_some, if_pos c2, en, el]
theorem blanksHead (x a1 a2 a3 : Int) (p m : Nat) (hp : p ≤ 4) (hm : m ≤ 4) (e1 : wrap64 (Int.tmod a1 5) = (p : Int)) (e2 : wrap64 (Int.tmod a2 5) = (m : Int)) (e3 : Int.tmod a2 5 = (m : Int)) (ew : wrap64 x = x) (h0 : 0 ≤ x) (h1 : x < 4294967296) (ho : 0 ≤ a3 ∧ a3 < 256) : ∀ (d i : Nat), p - i = d → i ≤ p →
    Ev (fun k => mudlarklaw01_NumBlanks.l0 k x a1 a2 a3 (digs 12 x ++ [0]) (List.replicate i 32) (i : Int)) true
  | 0, i, hd, hi => by
    have ei : i = p := by omega
    subst ei
    have hT := blanksTail x a2 a3 i m hp hm e2 e3 ew h0 h1 ho m 0 (by omega) (by omega)
    have c1 : ¬ (i : Int) < (i : Int) := by omega
    have hl : (digs 12 x ++ [0]).length = 13 := digs_len 11 x
    have c2 : (12 : Int) ≤ ((digs 12 x ++ [0]).length : Int) := by rw [hl]; omega
    have et : (digs 12 x ++ [0]).take 12 = digs 12 x := by rw [List.take_append_of_le_length (by rw [digs_length]; omega), List.take_of_length_le (by rw [digs_length]; omega)]
    have c3 : (List.replicate i (32 : Int)).length + (digs 12 x).length < 140737488355328 := by rw [List.length_replicate, digs_length]; omega
    have el : List.replicate i 32 ++ digs 12 x = whole i 0 x := by unfold whole pads; rw [List.append_nil]
    refine Ev.step (fun k => ?_) hT
    simp only [mudlarklaw01_NumBlanks.l0]
    rw [e1, if_neg c1, if_pos c2, Option.bind_some, et, if_pos c3, el]
    rfl
  | d + 1, i, hd, hi => by
    have ih := blanksHead x a1 a2 a3 p m hp hm e1 e2 e3 ew h0 h1 ho d (i + 1) (by omega) (by omega)
    have c1 : (i : Int) < (p : Int) := by omega
    have c2 : (List.replicate i (32 : Int)).length < 140737488355328 := by rw [List.length_replicate]; omega
    have en : wrap64 ((i : Int) + 1) = ((i + 1 : Nat) : Int) := by rw [wrap64_id _ (by omega) (by omega)]; omega
    refine Ev.step (fun k => ?_) ih
    simp only [mudlarklaw01_NumBlanks.l0]
    rw [e1, if_pos c1, if_pos c2, en, ← List.replicate_succ']
theorem NumBlanks : mudlarklaw01_NumBlanks.Pure := by
  intro a0 a1 a2 a3 h0 h1 h2 h3
  refine Ev.rounds (g := fun k => mudlarklaw01_NumBlanks.f k a0 a1 a2 a3) ?_
  have w1 := wf_u8 h1
  have w2 := wf_u8 h2
  have w3 := wf_u8 h3
  have w0 : 0 ≤ a0 ∧ a0 < 4294967296 := by
    simp [Lit.wf, IntKind.min, IntKind.max, IntKind.signed, IntKind.bits] at h0
    omega
  have ew : wrap64 a0 = a0 := wrap64_id _ (by omega) (by omega)
  have e1 : wrap64 (Int.tmod a1 5) = (((a1 % 5).toNat : Nat) : Int) := by rw [Int.tmod_eq_emod_of_nonneg w1.1, wrap64_id (a1 % 5) (by omega) (by omega)]; omega
  have e3 : Int.tmod a2 5 = (((a2 % 5).toNat : Nat) : Int) := by rw [Int.tmod_eq_emod_of_nonneg w2.1]; omega
  have e2 : wrap64 (Int.tmod a2 5) = (((a2 % 5).toNat : Nat) : Int) := by rw [Int.tmod_eq_emod_of_nonneg w2.1, wrap64_id (a2 % 5) (by omega) (by omega)]; omega
  have hL := blanksHead a0 a1 a2 a3 (a1 % 5).toNat (a2 % 5).toNat (by omega) (by omega) e1 e2 e3 ew w0.1 w0.2 w3 _ 0 rfl (by omega)
  have hput : putOctF a0 13 = (digs 12 a0 ++ [0], true) := by
    have h := putOct_at a0 11 (by omega) (by omega)
    have hroom : octRoom a0 (11 + 1) := ⟨w0.1, by
      have e : (8 : Int) ^ (11 + 1) = 68719476736 := by decide
      rw [e, Int.ediv_eq_zero_of_lt w0.1 (by omega)]; decide⟩
    rw [if_pos hroom] at h
    exact h
  clear e1 e2 e3
  unfold mudlarklaw01_NumBlanks.f
  rw [ew]
  refine Ev.bind (PutOctal_all _ _) ?_
  rw [hput]
  simp only [if_true]
  rw [digs_len 11]
  refine Ev.step (fun k => ?_) hL
  simp only [mudlarklaw01_NumBlanks.j0]
  rw [if_neg (by decide)]
  rfl
end Go.Proofs.YtnhaicihkmcabaaDoor.Pure
