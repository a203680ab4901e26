/- sparse.Parse: what it hands back for every text whose pieces are numerals of at most 18 bytes. Its condition: internal/strconv's table of powers of ten holds what its text lays. -/
import Derived.Test.YtlnbkmlidmgbaaaDoorHSplitSeq
import Derived.Test.YtlnbkmlidmgbaaaDoorPx2
namespace Go.Proofs.YtlnbkmlidmgbaaaDoor.P
open Go.RowKit Go.Shelf Go.Lib Go.Proofs.YtlnbkmlidmgbaaaDoorW.PrintWords Go.Proofs.YtlnbkmlidmgbaaaDoorW.PrintLast Go.Proofs.YtlnbkmlidmgbaaaDoorW.PrintMore
set_option linter.unusedVariables false
set_option linter.unusedSimpArgs false
attribute [local go_sem] Oper.semAt_some

/-- A number more: half of a part, or the other half. -/
def stepP (half : Bool) (out : List S40) (n : Int) : List S40 := if half = true then out.set (out.length - 1) ⟨(out.getD (out.length - 1) z40).f0, n⟩ else out ++ [⟨n, 0⟩]
def parseGo : List ByteArray → Bool → List S40 → Option (List S40 × Bool)
  | [], half, out => some (if half = true ∨ 1000 < out.length then ([], false) else (out, true))
  | x :: xs, half, out => (sparse_number.f x).bind fun p => if p.2 = true then parseGo xs (!half) (stepP half out p.1) else some ([], false)
def sparse_Parse.f (s : ByteArray) : Option (List S40 × Bool) := if s.size ≤ 4294967296 then (if s.size = 0 then some ([], true) else parseGo (fieldsB s) false []) else none

theorem splitC_length : ∀ l, (splitC l).length ≤ l.length + 1
  | [] => by simp [splitC]
  | c :: l => by
    have h := splitC_length l
    have h2 := List.length_pos_iff.2 (splitC_ne l)
    unfold splitC
    split <;> simp <;> omega
theorem fieldsB_length (s : ByteArray) : (fieldsB s).length ≤ s.size + 1 := by
  have := splitC_length s.data.toList
  unfold fieldsB
  rw [List.length_map, Lib.size_eq]
  exact this
theorem stepP_length (half : Bool) (out : List S40) (n : Int) : (stepP half out n).length ≤ out.length + 1 := by
  unfold stepP
  split <;> simp
theorem grown_of_below {W W1 : World} (hb : Below W.heap.size W W1) : W.grownBy W1 none := ⟨hb.os, hb.tape, hb.output, hb.size, fun k hk _ => hb.block k hk⟩
theorem cell_pair_new (W : World) (t : TypeId) (a b : Value) : ∀ (j : Nat) u, [a, b][j]? = some u → (W.alloc (.cells #[a, b] t)).cell? ((⟨W.heap.size, 0, none⟩ : Addr).add j) = some u := by
  intro j u hj
  have h := blk_cell (blk_new W (.cells #[a, b] t (0, 0))) j
  rw [show ((⟨W.heap.size, 0, none⟩ : Addr).add j) = ⟨W.heap.size, j, none⟩ by simp [Addr.add]; try omega]
  refine h.trans ?_
  rw [← hj]
  simp
theorem results_boxes {W : World} {b : Nat} {v1 v2 : Value} (b1 : Boxed W b 23 v1) (b2 : Boxed W (b + 1) 4 v2) (tmps : Array Value) (h1 : tmps.getD 2 undef = .pointer (some ⟨b, 0, none⟩)) (h2 : tmps.getD 3 undef = .pointer (some ⟨b + 1, 0, none⟩)) :
    (results Tryd.f20 tmps).run Tryd.prog W = .ok (.tuple #[v1, v2]) W := by
  have hr : Tryd.f20.results = #[.cell 2 23, .cell 3 4] := rfl
  have h1' : tmps[2]?.getD undef = .pointer (some ⟨b, 0, none⟩) := by simpa using h1
  have h2' : tmps[3]?.getD undef = .pointer (some ⟨b + 1, 0, none⟩) := by simpa using h2
  have c1 := b1.cell
  have c2 := b2.cell
  have u1 := Tryd.underlying23
  have u2 := Tryd.underlying4
  simp [results, hr, h1', h2', asAddr, loadVar, u1, u2, c1, c2, go_sem]
theorem R40_own {W : World} {base : Nat} {v : Value} {xs : List S40} (h : Kd.R k40 40 W base (fun _ => True) v xs) : ∃ inner, W.ownsRow base 40 2 v xs.length inner ∧ Reps (fun (x : S40) cs => cs = [.int .i64 x.f0, .int .i64 x.f1]) 2 xs inner := by
  obtain ⟨_, inner, ho, hr⟩ := h
  exact ⟨inner, ho, hr.imp_ (fun _ _ hq => k40_openM hq)⟩
theorem R40_of {W : World} {base : Nat} {v : Value} {xs : List S40} {inner : List Value} (ho : W.ownsRow base 40 2 v xs.length inner) (hr : Reps (fun (x : S40) cs => cs = [.int .i64 x.f0, .int .i64 x.f1]) 2 xs inner) : Kd.R k40 40 W base (fun _ => True) v xs :=
  ⟨fun _ _ => trivial, inner, ho, hr.imp_ (fun x _ hq => by rw [hq]; exact k40_mkM _ _ _ x)⟩

theorem own_kept0 {W W1 : World} {base : Nat} {e : TypeId} {size n : Nat} {v : Value} {xs : List Value} (h : W.ownsRow base e size v n xs) (hg : W.grownBy W1 none) : W1.ownsRow base e size v n xs :=
  own_move h (fun k hk => hg.block k (own_lt h k hk) (by simp))
/-- What the loop keeps. -/
def ParseI (w : World) (fs : List ByteArray) (r : Option (List S40 × Bool)) (pre : List ByteArray) (W : World) : Prop :=
  ∃ (half : Bool) (out : List S40) (v : Value), (∀ rest, fs = pre ++ rest → parseGo rest half out = r) ∧ out.length ≤ pre.length ∧ (half = true → out ≠ []) ∧
    Boxed W w.heap.size 23 (.slice none 0 0) ∧ Boxed W (w.heap.size + 1) 4 (.bool false) ∧ Boxed W (w.heap.size + 2) 23 v ∧ Kd.R k40 40 W (w.heap.size + 7) (fun _ => True) v out ∧ Boxed W (w.heap.size + 3) 4 (.bool half) ∧
    Below w.heap.size w W ∧ w.heap.size + 7 ≤ W.heap.size
/-- Where a piece is no number. -/
def ParseX (w : World) (r : Option (List S40 × Bool)) (c : Code) (pre : List ByteArray) (W : World) : Prop :=
  c = .ret ∧ r = some ([], false) ∧ Boxed W w.heap.size 23 (.slice none 0 0) ∧ Boxed W (w.heap.size + 1) 4 (.bool false) ∧ Below w.heap.size w W ∧ w.heap.size + 7 ≤ W.heap.size
theorem R40_turned {W : World} {base l : Nat} {o o' : Obj} {v : Value} {xs : List S40} (h : Kd.R k40 40 W base (fun _ => True) v xs) (ho : W.heap[l]? = some o) (hc : o.isCells = false) : Kd.R k40 40 (W.putObj l o') base (fun _ => True) v xs := by
  obtain ⟨inner, h1, h2⟩ := R40_own h
  exact R40_of (ownsRow_putObj h1 _ ho hc) h2
theorem parseI_lasts (w : World) (fs : List ByteArray) (r : Option (List S40 × Bool)) : Lasts (w.heap.size + 4) (w.heap.size + 7) (ParseI w fs r) where
  grown := fun s W W' ⟨half, out, v, h1, h2, h3, b1, b2, b3, hR, b4, hB, hz⟩ hg =>
    ⟨half, out, v, h1, h2, h3, b1.kept hg (by simp), b2.kept hg (by simp), b3.kept hg (by simp), Kd.R_grown2 hR rfl hg (fun k e => by cases e), b4.kept hg (by simp), hB.grown hg (Nat.le_trans (by omega) hz) (fun k e => by cases e), Nat.le_trans hz hg.size⟩
  store := fun s W u ⟨half, out, v, h1, h2, h3, b1, b2, b3, hR, b4, hB, hz⟩ => by
    have hg := grownBy_setCell' W (w.heap.size + 4) u
    refine ⟨half, out, v, h1, h2, h3, b1.kept hg (by simp), b2.kept hg (by simp), b3.kept hg (by simp), Kd.R_grown2 hR rfl hg (fun k e h => ?_), b4.kept hg (by simp), hB.setCell (p := ⟨w.heap.size + 4, 0, none⟩) (by simp) u, Nat.le_trans hz hg.size⟩
    have := Kd.R_base hR k h.symm
    injection e with e
    omega
  turned := fun s W l o o' ⟨half, out, v, h1, h2, h3, b1, b2, b3, hR, b4, hB, hz⟩ hl ho hc =>
    ⟨half, out, v, h1, h2, h3, (World.putObj_heap_other (by omega)).trans b1, (World.putObj_heap_other (by omega)).trans b2, (World.putObj_heap_other (by omega)).trans b3, R40_turned hR ho hc, (World.putObj_heap_other (by omega)).trans b4, hB.grown (grownBy_putObj' W l o') (by omega) (fun k e => by cases e; omega), Nat.le_trans hz (grownBy_putObj' W l o').size⟩
theorem parseX_lasts (w : World) (r : Option (List S40 × Bool)) (c : Code) : Lasts (w.heap.size + 4) (w.heap.size + 7) (ParseX w r c) where
  grown := fun s W W' ⟨h1, h2, b1, b2, hB, hz⟩ hg => ⟨h1, h2, b1.kept hg (by simp), b2.kept hg (by simp), hB.grown hg (Nat.le_trans (by omega) hz) (fun k e => by cases e), Nat.le_trans hz hg.size⟩
  store := fun s W u ⟨h1, h2, b1, b2, hB, hz⟩ => by
    have hg := grownBy_setCell' W (w.heap.size + 4) u
    exact ⟨h1, h2, b1.kept hg (by simp), b2.kept hg (by simp), hB.setCell (p := ⟨w.heap.size + 4, 0, none⟩) (by simp) u, Nat.le_trans hz hg.size⟩
  turned := fun s W l o o' ⟨h1, h2, b1, b2, hB, hz⟩ hl ho hc =>
    ⟨h1, h2, (World.putObj_heap_other (by omega)).trans b1, (World.putObj_heap_other (by omega)).trans b2, hB.grown (grownBy_putObj' W l o') (by omega) (fun k e => by cases e; omega), Nat.le_trans hz (grownBy_putObj' W l o').size⟩

/-- The results stored, the rounds' deferred calls taken. -/
theorem parse_end {w W : World} {D : Nat} {x1 v1 v2 : Value} {x2 : Bool} {r1 : List S40} (b1 : Boxed W w.heap.size 23 v1) (b2 : Boxed W (w.heap.size + 1) 4 v2)
    (hR : Kd.R k40 40 W (w.heap.size + 7) (fun _ => True) x1 r1) (hB : Below w.heap.size w W) (hD : w.heap.size + 7 ≤ D) (hK : W.heap[D]? = some (.deferred (some []))) (W2 : World)
    (hW2 : W2 = (W.setCell ⟨w.heap.size, 0, none⟩ x1).setCell ⟨w.heap.size + 1, 0, none⟩ (.bool x2)) :
    W2.heap[D]? = some (.deferred (some [])) ∧ Boxed (W2.putObj D (.deferred none)) w.heap.size 23 x1 ∧ Boxed (W2.putObj D (.deferred none)) (w.heap.size + 1) 4 (.bool x2) ∧
      Kd.R k40 40 (W2.putObj D (.deferred none)) w.heap.size (fun _ => True) x1 r1 ∧ Below w.heap.size w (W2.putObj D (.deferred none)) := by
  have g1 := grownBy_setCell' W w.heap.size x1
  have g2 := grownBy_setCell' (W.setCell ⟨w.heap.size, 0, none⟩ x1) (w.heap.size + 1) (.bool x2)
  have k1 : Boxed (W.setCell ⟨w.heap.size, 0, none⟩ x1) w.heap.size 23 x1 := Boxed.set _ b1
  have k2 : Boxed W2 w.heap.size 23 x1 := by rw [hW2]; exact k1.kept g2 (by simp)
  have k3 : Boxed W2 (w.heap.size + 1) 4 (.bool x2) := by rw [hW2]; exact Boxed.set _ (b2.kept g1 (by simp))
  have hK2 : W2.heap[D]? = some (.deferred (some [])) := by
    rw [hW2, Below.heap_setCell _ _ _ _ (by simp; omega), Below.heap_setCell _ _ _ _ (by simp; omega)]
    exact hK
  have hR1 : Kd.R k40 40 (W.setCell ⟨w.heap.size, 0, none⟩ x1) (w.heap.size + 7) (fun _ => True) x1 r1 := Kd.R_grown2 hR rfl g1 (fun k e h => by have := Kd.R_base hR k h.symm; injection e with e; omega)
  have hR2 : Kd.R k40 40 W2 (w.heap.size + 7) (fun _ => True) x1 r1 := by rw [hW2]; exact Kd.R_grown2 hR1 rfl g2 (fun k e h => by have := Kd.R_base hR1 k h.symm; injection e with e; omega)
  have hB2 : Below w.heap.size w W2 := by rw [hW2]; exact (hB.setCell (p := ⟨w.heap.size, 0, none⟩) (by simp) x1).setCell (p := ⟨w.heap.size + 1, 0, none⟩) (by simp) (.bool x2)
  exact ⟨hK2, (World.putObj_heap_other (by omega)).trans k2, (World.putObj_heap_other (by omega)).trans k3, Kd.R_lower (R40_turned hR2 hK2 rfl) (by omega), hB2.trans (belowK_b (w := w) (Nat.le_refl _) W2 D _ _ (by omega) hK2 rfl rfl)⟩

set_option maxRecDepth 100000 in
set_option maxHeartbeats 8000000 in
theorem sparse_Parse.calls (a0 : ByteArray) (r1 : List S40) (r2 : Bool) (w : World) (h : sparse_Parse.f a0 = some (r1, r2)) (HT_ : Tabs w) :
    Calls Tryd.prog 20 #[.string a0] w fun e w' => ∃ v0_ : Value, e = .returned (.tuple #[v0_, .bool r2]) ∧ Kd.R k40 40 w' w.heap.size (fun _ => True) v0_ r1 ∧ Below w.heap.size w w' := by
  unfold sparse_Parse.f at h
  by_cases hs : a0.size ≤ 4294967296
  · rw [if_pos hs] at h
    by_cases h0 : a0.size = 0
    · rw [if_pos h0] at h
      obtain ⟨rfl, rfl⟩ := Prod.mk.inj (Option.some.inj h)
      obtain rfl : a0 = ⟨#[]⟩ := by
        have : a0.data = #[] := Array.eq_empty_of_size_eq_zero h0
        cases a0
        exact congrArg ByteArray.mk this
      clear h hs h0
      go_enter Tryd.func20, Tryd.ntmps20
      go_wp2
      have bA := (Boxed.new w 23 (.slice none 0 0)).alloc (.cells #[.bool true] 4)
      have bB := Boxed.new (w.alloc (.cells #[.slice none 0 0] 23)) 4 (.bool true)
      rw [World.size_alloc] at bB
      refine bodyPost_ret (results_boxes bA bB _ rfl rfl) rfl ?_
      exact ⟨_, rfl, Kd.R_nil _ _ _ _ _, ((Below.refl _ w).alloc (Nat.le_refl _) _).alloc (by simp) _⟩
    · rw [if_neg h0] at h
      have hne : ¬ (a0 = ⟨#[]⟩) := fun e => h0 (by rw [e]; rfl)
      have hE2 : a0.toList.isEmpty = false := by
        cases hq : a0.toList with
        | nil => exact (h0 (by have h2 := congrArg List.length ((Lib.toList_data a0).symm.trans hq); rwa [Array.length_toList] at h2)).elim
        | cons => rfl
      obtain ⟨i0, hi, hz0, hz1, hz2⟩ := info_parts info40
      have hll := fieldsB_length a0
      have HT := Aside0.mk HT_
      have HL := Aside0.mk hll
      clear HT_ hll
      refine (callsIn_wide (n := 3)).1 ?_
      refine callsIn_of_wp_marks Tryd.func20 rfl trivial ?_ rfl
      simp only [Tryd.ntmps20, List.size_toArray, List.length_cons, List.length_nil, Nat.reduceAdd, Nat.reduceSub, Array.replicate_succ, Array.replicate_zero, List.push_toArray, List.append_toArray, List.nil_append, List.cons_append]
      gi_wp2_with (refine ⟨trivial, ?_⟩; gi_at_call 28; refine (callsIn_wide.2 (splitSeq_calls a0 ⟨#[44]⟩ _)).mono ?_; rintro e w1 ⟨rfl, rfl⟩)
      simp only [Nat.add_assoc, Nat.reduceAdd]
      have bA := (Boxed.new w 23 (.slice none 0 0))
      have bB := Boxed.new (w.alloc (.cells #[.slice none 0 0] 23)) 4 (.bool false)
      have bO := Boxed.new ((w.alloc (.cells #[.slice none 0 0] 23)).alloc (.cells #[.bool false] 4)) 23 (.slice none 0 0)
      have bH := Boxed.new (((w.alloc (.cells #[.slice none 0 0] 23)).alloc (.cells #[.bool false] 4)).alloc (.cells #[.slice none 0 0] 23)) 4 (.bool false)
      have bS := Boxed.new ((((w.alloc (.cells #[.slice none 0 0] 23)).alloc (.cells #[.bool false] 4)).alloc (.cells #[.slice none 0 0] 23)).alloc (.cells #[.bool false] 4)) 9 (.string a0)
      have bP := Boxed.new (((((w.alloc (.cells #[.slice none 0 0] 23)).alloc (.cells #[.bool false] 4)).alloc (.cells #[.slice none 0 0] 23)).alloc (.cells #[.bool false] 4)).alloc (.cells #[.string a0] 9)) 9 (.string ⟨#[44]⟩)
      have bZ := Boxed.new ((((((w.alloc (.cells #[.slice none 0 0] 23)).alloc (.cells #[.bool false] 4)).alloc (.cells #[.slice none 0 0] 23)).alloc (.cells #[.bool false] 4)).alloc (.cells #[.string a0] 9)).alloc (.cells #[.string ⟨#[44]⟩] 9)) 3 (.int .i64 0)
      simp only [World.size_alloc, Nat.add_assoc, Nat.reduceAdd] at bB bO bH bS bP bZ
      have hB0 : Below w.heap.size w (((((((w.alloc (.cells #[.slice none 0 0] 23)).alloc (.cells #[.bool false] 4)).alloc (.cells #[.slice none 0 0] 23)).alloc (.cells #[.bool false] 4)).alloc (.cells #[.string a0] 9)).alloc (.cells #[.string ⟨#[44]⟩] 9)).alloc (.cells #[.int .i64 0] 3)) :=
        ((((((((Below.refl _ w).alloc (Nat.le_refl _) _).alloc (by simp) _).alloc (by simp; omega) _).alloc (by simp; omega) _).alloc (by simp; omega) _).alloc (by simp; omega) _).alloc (by simp; omega) _)
      obtain ⟨W0, hW0⟩ : ∃ W0, W0 = (((((((w.alloc (.cells #[.slice none 0 0] 23)).alloc (.cells #[.bool false] 4)).alloc (.cells #[.slice none 0 0] 23)).alloc (.cells #[.bool false] 4)).alloc (.cells #[.string a0] 9)).alloc (.cells #[.string ⟨#[44]⟩] 9)).alloc (.cells #[.int .i64 0] 3)) := ⟨_, rfl⟩
      have bA' : Boxed W0 w.heap.size 23 (.slice none 0 0) := by rw [hW0]; exact ((((((bA.alloc _).alloc _).alloc _).alloc _).alloc _).alloc _)
      have bB' : Boxed W0 (w.heap.size + 1) 4 (.bool false) := by rw [hW0]; exact (((((bB.alloc _).alloc _).alloc _).alloc _).alloc _)
      have bO' : Boxed W0 (w.heap.size + 2) 23 (.slice none 0 0) := by rw [hW0]; exact ((((bO.alloc _).alloc _).alloc _).alloc _)
      have bH' : Boxed W0 (w.heap.size + 3) 4 (.bool false) := by rw [hW0]; exact (((bH.alloc _).alloc _).alloc _)
      have bS' : Boxed W0 (w.heap.size + 4) 9 (.string a0) := by rw [hW0]; exact ((bS.alloc _).alloc _)
      have bP' : Boxed W0 (w.heap.size + 5) 9 (.string ⟨#[44]⟩) := by rw [hW0]; exact (bP.alloc _)
      have bZ' : Boxed W0 (w.heap.size + 6) 3 (.int .i64 0) := by rw [hW0]; exact bZ
      have hB' : Below w.heap.size w W0 := by rw [hW0]; exact hB0
      have hsz : W0.heap.size = w.heap.size + 7 := by rw [hW0]; simp
      rw [← hW0]
      clear bA bB bO bH bS bP bZ hB0 hW0
      refine range_box3 (by omega) (gf := 57) (b := w.heap.size + 4) (by omega) rfl (enters_of Tryd.func57 (by kernel_rfl) rfl) (splitSeq_box _ _ (by omega) a0 _ (by omega) bS' bP' bZ')
        (ParseI w (fieldsB a0) (some (r1, r2))) (ParseX w (some (r1, r2))) (by rw [hsz]; exact parseI_lasts w _ _) (fun c => by rw [hsz]; exact parseX_lasts w _ c)
        ⟨false, [], .slice none 0 0, fun rest hr => by rw [List.nil_append] at hr; rw [← hr]; exact h, Nat.le_refl _, fun e => by (cases e), bA', bB', bO', Kd.R_nil _ _ _ _ _, bH', hB', by omega⟩
        (fun x => { tmps := #[.string a0, undef, .pointer (some ⟨w.heap.size, 0, none⟩), .pointer (some ⟨w.heap.size + 1, 0, none⟩), .pointer (some ⟨w.heap.size + 2, 0, none⟩), .pointer (some ⟨w.heap.size + 3, 0, none⟩), .string x, undef, undef, .string a0, .bool false, .string a0, .func (.func 57) #[] #[.pointer (some ⟨w.heap.size + 5, 0, none⟩), .pointer (some ⟨w.heap.size + 4, 0, none⟩), .pointer (some ⟨w.heap.size + 6, 0, none⟩)], .string x, undef, undef, undef, undef, undef, undef, undef, undef, undef, undef, undef, undef, undef, undef, undef, undef, undef, undef, undef, undef, undef, undef, undef, undef, undef, undef, undef, undef, undef], defers := [] }) ?assign ?body ?done ?stop
      case assign =>
        intro l x W K hK
        gi_wp2
        exact hK
      case body =>
        rintro l pre x W ⟨half, out, v, hgo, hlen, hne2, b1, b2, b3, hR, b4, hB, hz⟩ ⟨rest, hrest⟩
        have hP := hgo (x :: rest) (by rw [← hrest, List.append_assoc]; rfl)
        simp only [parseGo] at hP
        obtain ⟨⟨nn, ok⟩, hnum, hP⟩ := Option.bind_eq_some_iff.1 hP
        have HN := Aside0.mk (fun W1 (hb1 : Below W.heap.size W W1) => sparse_number.calls x nn ok W1 hnum ((HT.out.below hB).below hb1))
        have hpl : out.length + 1 ≤ 4294967297 := by
          have h1 := HL.out
          have h2 := congrArg List.length hrest
          rw [List.length_append, List.length_append] at h2
          simp only [List.length_cons, List.length_nil] at h2
          omega
        clear hnum h hgo
        cases ok with
        | false =>
          simp only [Bool.false_eq_true, if_false] at hP
          gi_wp2_with (refine ⟨trivial, ?_⟩; gi_at_call 29; refine (CallsIn.inRound l (callsIn_wide.2 (HN.out _ (Below.refl _ _)))).mono ?_; rintro e w1 ⟨rfl, hb⟩; have b1' : Boxed w1 w.heap.size 23 (.slice none 0 0) := (hb.block _ b1.lt).trans b1; have b2' : Boxed w1 (w.heap.size + 1) 4 (.bool false) := (hb.block _ b2.lt).trans b2; have hc1 := b1'.cell; have hf1 := b1'.frozen; have hc2 := b2'.cell; have hf2 := b2'.frozen)
          refine ⟨(KeepsOthers.of_grownBy (grown_of_below hb) (fun j o e => by cases e)).trans ((KeepsOthers.setCell _ _ _).trans (KeepsOthers.setCell _ _ _)), rfl, hP.symm, ?_, ?_, ?_, ?_⟩
          · exact (Below.heap_setCell _ _ _ _ (by simp)).trans (Boxed.set (W := w1) _ b1')
          · exact Boxed.set (W := w1.setCell ⟨w.heap.size, 0, none⟩ (.slice none 0 0)) _ ((Below.heap_setCell _ _ _ _ (by simp)).trans b2')
          · exact ((hB.grown (grown_of_below hb) (Nat.le_trans (by omega) hz) (fun k e => by cases e)).setCell (p := ⟨w.heap.size, 0, none⟩) (by simp) _).setCell (p := ⟨w.heap.size + 1, 0, none⟩) (by simp) _
          · have h1 := hb.size
            have h2 := (grownBy_setCell' w1 w.heap.size (.slice none 0 0)).size
            have h3 := (grownBy_setCell' (w1.setCell ⟨w.heap.size, 0, none⟩ (.slice none 0 0)) (w.heap.size + 1) (.bool false)).size
            omega
        | true =>
          simp only [if_true] at hP
          cases half with
          | true =>
            obtain ⟨k, hk⟩ : ∃ k, out.length = k + 1 := ⟨out.length - 1, by have := List.length_pos_iff.2 (hne2 rfl); omega⟩
            obtain ⟨g, cap, rfl, hgb, hgl, _, _⟩ := Kd.R_form hR (by omega)
            rw [hk] at b3 hR
            have k1 : (k : Int) + 1 - 1 = k := by omega
            have k2 : (k : Int) < (k : Int) + 1 := by omega
            have hmax : k + 1 ≤ 4294967297 := by omega
            have HR := Aside0.mk hR
            have HP := Aside0.mk hP
            have HGB := Aside0.mk hgb
            clear hR hP hne2 hgb hgl
            gi_wp2_with (refine ⟨trivial, ?_⟩; gi_at_call 29; refine (CallsIn.inRound l (callsIn_wide.2 (HN.out _ (Below.refl _ _)))).mono ?_; rintro e w1 ⟨rfl, hb⟩; have HR1 := Aside0.mk (Kd.R_below HR.out hb); have b3' : Boxed w1 (w.heap.size + 2) 23 _ := (hb.block _ b3.lt).trans b3; have b4' : Boxed w1 (w.heap.size + 3) 4 _ := (hb.block _ b4.lt).trans b4; have hc3 := b3'.cell; have hf3 := b3'.frozen; have hc4 := b4'.cell; have hf4 := b4'.frozen; obtain ⟨ce, hcl, hM, hcc, hfr⟩ := Kd.R_elem HR1.out z40 (k : Int) (by omega) (by omega); obtain rfl := k40_openM hM; have hx1 := hcc 1 _ rfl; have hf1 := hfr 1; simp only [show (k40).sz = 2 from rfl, Int.toNat_natCast] at hx1 hf1; have HS := Aside0.mk (Kd.R_seg HR1.out (k : Int) (by omega) (by omega) (seg := [.int .i64 nn]) (j := 1) hcl hcc (show 2 ≤ 2 from by decide) (x' := (⟨(out.getD (k : Int).toNat z40).f0, nn⟩ : S40)) (k40_mkM _ _ _ (⟨(out.getD (k : Int).toNat z40).f0, nn⟩ : S40)) (fun _ hk => hk)); clear hcl hM hcc hfr)
            have hS1 : Kd.R k40 40 (w1.setCell ⟨g, k * 2 + 1, none⟩ (.int .i64 nn)) (w.heap.size + 7) (fun _ => True) (.slice (some ⟨g, 0, none⟩) (k + 1) cap) (stepP true out nn) := by
              have h1 := HS.out.1
              rw [Int.toNat_natCast] at h1
              unfold stepP
              rw [if_pos rfl, hk, Nat.add_sub_cancel]
              exact h1
            have hg1 : w1.grownBy (w1.setCell ⟨g, k * 2 + 1, none⟩ (.int .i64 nn)) (some g) := by
              have h1 := HS.out.2
              rw [Int.toNat_natCast] at h1
              exact h1
            have hgb := HGB.out
            have hg2 := grownBy_setCell' (w1.setCell ⟨g, k * 2 + 1, none⟩ (.int .i64 nn)) (w.heap.size + 3) (.bool false)
            have hg0 := grown_of_below hb
            refine ⟨(KeepsOthers.of_grownBy hg0 (fun j o e => by cases e)).trans ((KeepsOthers.setCell _ _ _).trans (KeepsOthers.setCell _ _ _)), ?_, false, stepP true out nn, .slice (some ⟨g, 0, none⟩) (k + 1) cap, ?_, ?_, (fun e => by cases e), ?_, ?_, ?_, ?_, ?_, ?_, ?_⟩
            · intro q h1 h2
              rw [Below.heap_setCell _ _ _ _ (by simp; omega), Below.heap_setCell _ _ _ _ (by simp; omega)]
              exact hb.block q (by omega)
            · intro rest' hr
              rw [List.append_cancel_left (hr.symm.trans hrest.symm)]
              exact HP.out
            · have := stepP_length true out nn
              rw [List.length_append]
              simp only [List.length_cons, List.length_nil]
              omega
            · exact ((b1.kept hg0 (by simp)).kept hg1 (by simp; omega)).kept hg2 (by simp)
            · exact ((b2.kept hg0 (by simp)).kept hg1 (by simp; omega)).kept hg2 (by simp)
            · exact ((b3.kept hg0 (by simp)).kept hg1 (by simp; omega)).kept hg2 (by simp)
            · exact Kd.R_grown2 hS1 rfl hg2 (fun j e h => by have := Kd.R_base hS1 j h.symm; injection e with e; omega)
            · exact Boxed.set _ ((b4.kept hg0 (by simp)).kept hg1 (by simp; omega))
            · exact (((hB.grown hg0 (Nat.le_trans (by omega) hz) (fun k e => by cases e))).setCell (p := ⟨g, k * 2 + 1, none⟩) (by simp; omega) _).setCell (p := ⟨w.heap.size + 3, 0, none⟩) (by simp) _
            · have h1 := hb.size
              have h2 := hg1.size
              have h3 := hg2.size
              omega
          | false =>
            obtain ⟨inner, hown, hrep⟩ := R40_own hR
            have HP := Aside0.mk hP
            have HW := Aside0.mk hown
            have HRp := Aside0.mk hrep
            clear hR hP hne2 hown hrep
            gi_wp2_with (first | (refine ⟨trivial, ?_⟩; gi_at_call 29; refine (CallsIn.inRound l (callsIn_wide.2 (HN.out _ (Below.refl _ _)))).mono ?_; rintro e w1 ⟨rfl, hb⟩; have b3' : Boxed w1 (w.heap.size + 2) 23 _ := (hb.block _ b3.lt).trans b3; have b4' : Boxed w1 (w.heap.size + 3) 4 _ := (hb.block _ b4.lt).trans b4; have hc3 := b3'.cell; have hf3 := b3'.frozen; have hc4 := b4'.cell; have hf4 := b4'.frozen; have HO1 := Aside0.mk (own_kept0 HW.out (grown_of_below hb))) | (gi_at_builtin; refine wpListIn_append_own _ rfl _ _ 23 rfl (w.heap.size + 7) 40 i0 (.agg #[.int .i64 0, .int .i64 0]) 2 16 Tryd.underlying23 hi hz0 hz1 hz2 rfl (by decide) _ _ _ rfl (own_kept0 HO1.out (World.grownBy_alloc _ _ _)) ⟨w1.heap.size, 0, none⟩ 1 1 [.int .i64 nn, .int .i64 0] rfl rfl (cell_pair_new _ _ _ _) (by simp [Value.oneCell']) (by unfold maxLen; omega) (by omega) (by have := hb.size; simp; omega) ?_; intro v' w2 hown' hgrow _; obtain ⟨g', cap', rfl⟩ := ownsRow_succ hown'; have HW2 := Aside0.mk hown'; have hgr := hgrow; have b3'' : Boxed w2 (w.heap.size + 2) 23 _ := (b3'.alloc _).kept hgrow (fun e => by have := own_base HW.out _ e.symm; omega); have b4'' : Boxed w2 (w.heap.size + 3) 4 _ := (b4'.alloc _).kept hgrow (fun e => by have := own_base HW.out _ e.symm; omega); clear hown' hc3 hf3 hc4 hf4; have hc3 := b3''.cell; have hf3 := b3''.frozen; have hc4 : (w2.setCell ⟨w.heap.size + 2, 0, none⟩ (.slice (some ⟨g', 0, none⟩) (out.length + 1) cap')).cell? ⟨w.heap.size + 3, 0, none⟩ = some (.bool false) := Boxed.cell ((Below.heap_setCell _ _ _ _ (by simp)).trans b4''); have hf4 : (w2.setCell ⟨w.heap.size + 2, 0, none⟩ (.slice (some ⟨g', 0, none⟩) (out.length + 1) cap')).frozen? ⟨w.heap.size + 3, 0, none⟩ = false := Boxed.frozen ((Below.heap_setCell _ _ _ _ (by simp)).trans b4'')))
            have hg0 := grown_of_below hb
            have ga := World.grownBy_alloc w1 (.cells #[.int .i64 nn, .int .i64 0] 40) none
            have g3 := grownBy_setCell' w2 (w.heap.size + 2) (.slice (some ⟨g', 0, none⟩) (out.length + 1) cap')
            have g4 := grownBy_setCell' (w2.setCell ⟨w.heap.size + 2, 0, none⟩ (.slice (some ⟨g', 0, none⟩) (out.length + 1) cap')) (w.heap.size + 3) (.bool true)
            have hoa := own_kept0 HO1.out ga
            have hbs := hb.size
            have hob : ∀ k, v.ownBlock = some k → w.heap.size + 7 ≤ k := fun k e => own_base HW.out k e
            have hR2 : Kd.R k40 40 w2 (w.heap.size + 7) (fun _ => True) (.slice (some ⟨g', 0, none⟩) (out.length + 1) cap') (out ++ [⟨nn, 0⟩]) := R40_of (by rw [List.length_append]; exact HW2.out) (HRp.out.snoc rfl rfl)
            have hR3 := Kd.R_grown2 hR2 rfl g3 (fun j e h => by have := Kd.R_base hR2 j h.symm; injection e with e; omega)
            refine ⟨(KeepsOthers.of_grownBy hg0 (fun j o e => by cases e)).trans ((KeepsOthers.alloc _ _).trans ((KeepsOthers.of_grownBy hgr (fun j o e ho => ?_)).trans ((KeepsOthers.setCell _ _ _).trans (KeepsOthers.setCell _ _ _)))), ?_, true, stepP false out nn, .slice (some ⟨g', 0, none⟩) (out.length + 1) cap', ?_, ?_, (fun _ => by unfold stepP; simp), ?_, ?_, ?_, ?_, ?_, ?_, ?_⟩
            · obtain ⟨cells, hce⟩ := own_typed hoa j e
              rw [hce] at ho
              obtain rfl := Option.some.inj ho
              rfl
            · intro q h1 h2
              rw [Below.heap_setCell _ _ _ _ (by simp; omega), Below.heap_setCell _ _ _ _ (by simp; omega), hgr.block q (by simp; omega) (fun e => by have := hob q e.symm; omega), Below.heap_alloc _ _ _ (by omega)]
              exact hb.block q (by omega)
            · intro rest' hr
              rw [List.append_cancel_left (hr.symm.trans hrest.symm)]
              exact HP.out
            · have := stepP_length false out nn
              rw [List.length_append]
              simp only [List.length_cons, List.length_nil]
              omega
            · exact ((((b1.kept hg0 (by simp)).alloc _).kept hgr (fun e => by have := hob _ e.symm; omega)).kept g3 (by simp)).kept g4 (by simp)
            · exact ((((b2.kept hg0 (by simp)).alloc _).kept hgr (fun e => by have := hob _ e.symm; omega)).kept g3 (by simp)).kept g4 (by simp)
            · exact (Boxed.set _ b3'').kept g4 (by simp)
            · exact Kd.R_grown2 hR3 rfl g4 (fun j e h => by have := Kd.R_base hR3 j h.symm; injection e with e; omega)
            · exact Boxed.set _ (b4''.kept g3 (by simp))
            · exact (((((hB.grown hg0 (Nat.le_trans (by omega) hz) (fun k e => by cases e)).alloc (by omega) _).grown hgr (by simp; omega) (fun k e => by have := hob k e; omega)).setCell (p := ⟨w.heap.size + 2, 0, none⟩) (by simp) _).setCell (p := ⟨w.heap.size + 3, 0, none⟩) (by simp) _)
            · have h2 := ga.size
              have h3 := hgr.size
              have h4 := g3.size
              have h5 := g4.size
              omega
      case done =>
        rintro D xs W hD rfl ⟨half, out, v, hgo, hlen, hne2, b1, b2, b3, hR, b4, hB, hz⟩ hK
        have hP := hgo [] (by simp)
        have hD' : w.heap.size + 7 ≤ D := by omega
        simp only [parseGo] at hP
        have hc1 := b1.cell
        have hf1 := b1.frozen
        have hc2 := b2.cell
        have hf2 := b2.frozen
        have hc3 := b3.cell
        have hc4 := b4.cell
        obtain ⟨A3, c3, rfl⟩ := Kd.R_slice hR
        have HR := Aside0.mk hR
        clear hR hgo h
        cases half with
        | true =>
          rw [if_pos (.inl rfl)] at hP
          obtain ⟨rfl, rfl⟩ := Prod.mk.inj (Option.some.inj hP)
          gi_wp2
          obtain ⟨e1, e2, e3, e4, e5⟩ := parse_end b1 b2 (Kd.R_nil _ _ _ _ _) hB hD' hK _ rfl
          refine ⟨by simp, .inl ⟨_, _, rfl, run_takeDeferred e1, ?_⟩⟩
          exact ⟨_, results_boxes e2 e3 _ rfl rfl, _, rfl, e4, e5⟩
        | false =>
          by_cases c9 : 1000 < out.length
          · rw [if_pos (.inr c9)] at hP
            obtain ⟨rfl, rfl⟩ := Prod.mk.inj (Option.some.inj hP)
            have c9b0 : decide (1000 < (out.length : Int)) = true := decide_eq_true (by omega)
            clear c9
            gi_wp2
            obtain ⟨e1, e2, e3, e4, e5⟩ := parse_end b1 b2 (Kd.R_nil _ _ _ _ _) hB hD' hK _ rfl
            refine ⟨by simp, .inl ⟨_, _, rfl, run_takeDeferred e1, ?_⟩⟩
            exact ⟨_, results_boxes e2 e3 _ rfl rfl, _, rfl, e4, e5⟩
          · rw [if_neg (by simp [c9])] at hP
            obtain ⟨rfl, rfl⟩ := Prod.mk.inj (Option.some.inj hP)
            have c9b0 : decide (1000 < (out.length : Int)) = false := decide_eq_false (by omega)
            clear c9
            gi_wp2
            obtain ⟨e1, e2, e3, e4, e5⟩ := parse_end b1 b2 HR.out hB hD' hK _ rfl
            refine ⟨by simp, .inl ⟨_, _, rfl, run_takeDeferred e1, ?_⟩⟩
            exact ⟨_, results_boxes e2 e3 _ rfl rfl, _, rfl, e4, e5⟩
      case stop =>
        rintro D c pre W hD _ ⟨rfl, hr, b1, b2, hB, hz⟩ hK
        have hD' : w.heap.size + 7 ≤ D := by omega
        obtain ⟨rfl, rfl⟩ := Prod.mk.inj (Option.some.inj hr)
        gi_wp2
        refine ⟨by simp, .inl ⟨_, _, rfl, run_takeDeferred hK, ?_⟩⟩
        have b1' : Boxed (W.putObj D (.deferred none)) w.heap.size 23 (.slice none 0 0) := (World.putObj_heap_other (by omega)).trans b1
        have b2' : Boxed (W.putObj D (.deferred none)) (w.heap.size + 1) 4 (.bool false) := (World.putObj_heap_other (by omega)).trans b2
        refine ⟨_, results_boxes b1' b2' _ rfl rfl, _, rfl, Kd.R_nil _ _ _ _ _, ?_⟩
        exact hB.trans (belowK_b (w := w) (Nat.le_refl _) W D _ _ (by omega) hK rfl rfl)
  · rw [if_neg hs] at h
    cases h
end Go.Proofs.YtlnbkmlidmgbaaaDoor.P
