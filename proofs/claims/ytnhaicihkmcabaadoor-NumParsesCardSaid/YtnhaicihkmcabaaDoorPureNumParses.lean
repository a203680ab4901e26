/- The pure statement of NumParses: what is parsed is what the chapter says. No conditions. -/
import Derived.Test.YtnhaicihkmcabaaDoorHNumRef
import Derived.Test.YtnhaicihkmcabaaDoorPx9
import Derived.Test.YtnhaicihkmcabaaDoorPx10
namespace Go.Proofs.YtnhaicihkmcabaaDoor.Pure
open Go Go.RowKit Go.Proofs.YtnhaicihkmcabaaDoor.P Go.Proofs.YtnhaicihkmcabaaDoorW.PrintWords Go.Proofs.YtnhaicihkmcabaaDoorW.PrintLast Go.Proofs.YtnhaicihkmcabaaDoorW.PrintMore

theorem parses_true (l : List Int) (hb : Bytes l) (hl : l.length < 9223372036854775807) : Ev (fun k => mudlarklaw01_parses.f k l) true := by
  unfold mudlarklaw01_parses.f
  rw [Octal_eq l hb]
  simp only [Option.bind_some]
  refine Ev.bind (RefOctal_eq l hl) (Ev.bind (Binary_eq l hb hl) (Ev.bind (RefBinary_eq l hb hl) (Ev.bind (Parse_eq l hb hl) (Ev.bind (RefParse_eq l hb hl) ?_))))
  simp only [if_true, beq_self_eq_true]
  exact Ev.now true
theorem set_bytes {l : List Int} (h : Bytes l) (i : Nat) (v : Int) (hv : 0 ≤ v ∧ v < 256) : Bytes (l.set i v) := fun x hx => by
  rcases List.mem_or_eq_of_mem_set hx with hx | rfl
  · exact h x hx
  · exact hv
theorem snoc_bytes {l : List Int} (h : Bytes l) (v : Int) (hv : 0 ≤ v ∧ v < 256) : Bytes (l ++ [v]) := fun x hx => by
  rcases List.mem_append.1 hx with hx | hx
  · exact h x hx
  · rw [List.mem_singleton.1 hx]; exact hv
theorem any_byte (q : Int) : 0 ≤ q % 256 ∧ q % 256 < 256 := by omega
theorem all_ones (q : Int) : 0 ≤ 255 * (q % 256 % 2) ∧ 255 * (q % 256 % 2) < 256 := by omega
theorem fieldSet (l : List Int) (a1 : Int) (hb : Bytes l) : ∀ (d i : Nat) (x : List Int), x.length - i = d → i ≤ x.length → Bytes x → x.length ≤ 24 → x.length ≤ l.length →
    ∃ r, Ev (fun k => mudlarklaw01_Field.l1 k l a1 x (i : Int)) r ∧ Bytes r ∧ r.length ≤ 24
  | 0, i, x, hd, hi, hx, h24, hl => by
    have c1 : ¬ (i : Int) < (x.length : Int) := by omega
    refine ⟨x, Ev.step (f := fun _ => some x) (fun k => ?_) (Ev.now _), hx, h24⟩
    simp only [mudlarklaw01_Field.l1]
    rw [if_neg c1]
  | d + 1, i, x, hd, hi, hx, h24, hl => by
    have hlt : i < l.length := by omega
    have c1 : (i : Int) < (x.length : Int) := by omega
    have c2 : 0 ≤ (i : Int) := by omega
    have c3 : (i : Int) < (l.length : Int) := by omega
    have hv := hb l[i] (List.getElem_mem _)
    have er : rd l (i : Int) = l[i] := by simp [rd, hlt]
    have b1 : Bytes (x.set i l[i]) := set_bytes hx i _ hv
    have en := next_i i (by omega)
    have L1 : ∀ v : Int, (x.set i v).length = x.length := fun v => List.length_set
    have L2 : ∀ v u : Int, ((x.set i v).set i u).length = x.length := fun v u => by rw [List.length_set, List.length_set]
    obtain ⟨r1, e1, c4⟩ := fieldSet l a1 hb d (i + 1) (x.set i l[i]) (by rw [L1]; omega) (by rw [L1]; omega) b1 (by rw [L1]; omega) (by rw [L1]; omega)
    have two : ∀ u : Int, 0 ≤ u ∧ u < 256 → ∃ r, Ev (fun k => mudlarklaw01_Field.l1 k l a1 ((x.set i l[i]).set i u) ((i + 1 : Nat) : Int)) r ∧ Bytes r ∧ r.length ≤ 24 := fun u hu =>
      fieldSet l a1 hb d (i + 1) ((x.set i l[i]).set i u) (by rw [L2]; omega) (by rw [L2]; omega) (set_bytes b1 i _ hu) (by rw [L2]; omega) (by rw [L2]; omega)
    obtain ⟨r2, e2, c5⟩ := two (255 * (((Int.tdiv a1 16) % 256) % 2)) (all_ones _)
    by_cases h8 : Int.tmod a1 8 = 0
    · by_cases h3 : (i : Int) < wrap64 ((x.length : Int) - 3)
      · refine ⟨r2, Ev.step (fun k => ?_) e2, c5⟩
        simp only [mudlarklaw01_Field.l1]
        rw [if_pos c1, if_pos c2, if_pos c3, Option.bind_some, if_pos h8, if_pos h3, er, en, Int.toNat_natCast]
      · refine ⟨r1, Ev.step (fun k => ?_) e1, c4⟩
        simp only [mudlarklaw01_Field.l1]
        rw [if_pos c1, if_pos c2, if_pos c3, Option.bind_some, if_pos h8, if_neg h3, er, en, Int.toNat_natCast]
    · refine ⟨r1, Ev.step (fun k => ?_) e1, c4⟩
      simp only [mudlarklaw01_Field.l1]
      rw [if_pos c1, if_pos c2, if_pos c3, Option.bind_some, if_neg h8, er, en, Int.toNat_natCast]
theorem fieldEnd (l : List Int) (a1 : Int) (hb : Bytes l) (x : List Int) (i : Int) (hx : Bytes x) (h24 : x.length ≤ 24) (hl : x.length ≤ l.length) :
    ∃ r, Ev (fun k => mudlarklaw01_Field.j1 k l a1 x i false) r ∧ Bytes r ∧ r.length ≤ 24 := by
  have hno : Ev (fun k => mudlarklaw01_Field.j2 k l a1 x false) x := by
    refine Ev.step (f := fun _ => some x) (fun k => ?_) (Ev.now _)
    simp only [mudlarklaw01_Field.j2]
    rw [if_neg (by simp)]
  have hyes : (x.length : Int) > 0 → ∀ u : Int, 0 ≤ u ∧ u < 256 → ∃ r, Ev (fun k => mudlarklaw01_Field.l1 k l a1 (x.set 0 u) ((1 : Nat) : Int)) r ∧ Bytes r ∧ r.length ≤ 24 := fun h0 u hu =>
    fieldSet l a1 hb (x.length - 1) 1 (x.set 0 u) (by rw [List.length_set]) (by rw [List.length_set]; omega) (set_bytes hx 0 _ hu) (by rw [List.length_set]; omega) (by rw [List.length_set]; omega)
  by_cases h0 : (x.length : Int) > 0
  · have c0 : 0 < (x.length : Int) := h0
    obtain ⟨r, e, c⟩ := hyes h0 _ (any_byte (128 + ((Int.tdiv a1 4) % 256)))
    have hj : Ev (fun k => mudlarklaw01_Field.j2 k l a1 x true) r := by
      refine Ev.step (fun k => ?_) e
      simp only [mudlarklaw01_Field.j2, if_true]
      rw [if_pos c0]
      rfl
    by_cases h4 : Int.tmod a1 4 = 0
    · refine ⟨r, Ev.step (fun k => ?_) hj, c⟩
      simp only [mudlarklaw01_Field.j1]
      rw [if_neg (by simp), if_pos h4, decide_eq_true h0]
    · refine ⟨x, Ev.step (fun k => ?_) hno, hx, h24⟩
      simp only [mudlarklaw01_Field.j1]
      rw [if_neg (by simp), if_neg h4]
  · by_cases h4 : Int.tmod a1 4 = 0
    · refine ⟨x, Ev.step (fun k => ?_) hno, hx, h24⟩
      simp only [mudlarklaw01_Field.j1]
      rw [if_neg (by simp), if_pos h4, decide_eq_false h0]
    · refine ⟨x, Ev.step (fun k => ?_) hno, hx, h24⟩
      simp only [mudlarklaw01_Field.j1]
      rw [if_neg (by simp), if_neg h4]
theorem fieldLoop (l : List Int) (a1 : Int) (hb : Bytes l) : ∀ (d : Nat) (x : List Int), min 24 l.length - x.length = d → x.length ≤ min 24 l.length → Bytes x →
    ∃ r, Ev (fun k => mudlarklaw01_Field.l0 k l a1 x (x.length : Int)) r ∧ Bytes r ∧ r.length ≤ 24
  | 0, x, hd, hi, hx => by
    obtain ⟨r, e, c⟩ := fieldEnd l a1 hb x (x.length : Int) hx (by omega) (by omega)
    refine ⟨r, Ev.step (fun k => ?_) e, c⟩
    simp only [mudlarklaw01_Field.l0]
    by_cases h : (x.length : Int) < (l.length : Int)
    · rw [if_pos h, decide_eq_false (by omega)]
    · rw [if_neg h]
  | d + 1, x, hd, hi, hx => by
    have hlt : x.length < l.length := by omega
    have hv := hb l[x.length] (List.getElem_mem _)
    have er : rd l (x.length : Int) = l[x.length] := by simp [rd, hlt]
    have en := next_i x.length (by omega)
    have hstep : ∀ v : Int, 0 ≤ v ∧ v < 256 → ∃ r, Ev (fun k => mudlarklaw01_Field.l0 k l a1 (x ++ [v]) ((x.length + 1 : Nat) : Int)) r ∧ Bytes r ∧ r.length ≤ 24 := fun v hv => by
      have hL : (x ++ [v]).length = x.length + 1 := by simp
      have := fieldLoop l a1 hb d (x ++ [v]) (by omega) (by omega) (snoc_bytes hx v hv)
      rwa [hL] at this
    have hmid : ∀ v : Int, (∀ k, mudlarklaw01_Field.j1 (k + 1) l a1 x (x.length : Int) true = mudlarklaw01_Field.l0 k l a1 (x ++ [v]) ((x.length + 1 : Nat) : Int)) → 0 ≤ v ∧ v < 256 → ∃ r, Ev (fun k => mudlarklaw01_Field.l0 k l a1 x (x.length : Int)) r ∧ Bytes r ∧ r.length ≤ 24 := fun v he hv => by
      obtain ⟨r, e, c⟩ := hstep v hv
      refine ⟨r, Ev.step (f := fun k => mudlarklaw01_Field.j1 k l a1 x (x.length : Int) true) (fun k => ?_) (Ev.step he e), c⟩
      simp only [mudlarklaw01_Field.l0]
      rw [if_pos (by omega), decide_eq_true (by omega)]
    have hlen : x.length < 140737488355328 := by omega
    by_cases h1 : l[x.length] < 180
    · refine hmid ((48 + (Int.tmod l[x.length] 8)) % 256) (fun k => ?_) (any_byte _)
      simp only [mudlarklaw01_Field.j1, if_true]
      rw [if_pos (by omega), if_pos (by omega), er, if_pos h1, if_pos hlen, en]
    · by_cases h2 : l[x.length] < 210
      · refine hmid 32 (fun k => ?_) (by omega)
        simp only [mudlarklaw01_Field.j1, if_true]
        rw [if_pos (by omega), if_pos (by omega), er, if_neg h1, if_pos h2, if_pos hlen, en]
      · by_cases h3 : l[x.length] < 235
        · refine hmid 0 (fun k => ?_) (by omega)
          simp only [mudlarklaw01_Field.j1, if_true]
          rw [if_pos (by omega), if_pos (by omega), er, if_neg h1, if_neg h2, if_pos h3, if_pos hlen, en]
        · refine hmid l[x.length] (fun k => ?_) hv
          simp only [mudlarklaw01_Field.j1, if_true]
          rw [if_pos (by omega), if_pos (by omega), er, if_neg h1, if_neg h2, if_neg h3, if_pos hlen, en]
theorem NumParses : mudlarklaw01_NumParses.Pure := by
  intro l0 l1 a2 hm0 hl0 hw0 hm1 hl1 hw1 h2
  refine Ev.rounds (g := fun k => mudlarklaw01_NumParses.f k l0 l1 a2) ?_
  have b0 := wf_bytes hw0
  have b1 := wf_bytes hw1
  have hyes : Ev (fun k => mudlarklaw01_NumParses.j0 k l0 l1 a2 true) true := by
    refine Ev.step (f := fun _ => some true) (fun k => ?_) (Ev.now true)
    simp only [mudlarklaw01_NumParses.j0, if_true]
    rfl
  by_cases h : (l0.length : Int) > 200
  · refine Ev.congr (fun k => ?_) hyes
    unfold mudlarklaw01_NumParses.f
    rw [if_pos h]
  · obtain ⟨r, er, br, lr⟩ := fieldLoop l1 a2 b1 _ [] rfl (by simp) (fun x hx => by simp at hx)
    have hno : Ev (fun k => mudlarklaw01_NumParses.j0 k l0 l1 a2 false) true := by
      refine Ev.step (f := fun k => (mudlarklaw01_parses.f k l0).bind fun t324 => (if t324 = true then ((mudlarklaw01_Field.f k l1 a2).bind fun t325 => ((mudlarklaw01_parses.f k t325).bind fun t328 => (some t328))) else (some false))) (fun k => ?_) ?_
      · simp only [mudlarklaw01_NumParses.j0]
        rw [if_neg (by simp)]
      · refine Ev.bind (parses_true l0 b0 (by omega)) ?_
        simp only [if_true]
        exact Ev.bind (g := fun k => mudlarklaw01_Field.f k l1 a2) er (Ev.bind (parses_true r br (by omega)) (Ev.now true))
    refine Ev.congr (fun k => ?_) hno
    unfold mudlarklaw01_NumParses.f
    rw [if_neg h]
    rfl
end Go.Proofs.YtnhaicihkmcabaaDoor.Pure
