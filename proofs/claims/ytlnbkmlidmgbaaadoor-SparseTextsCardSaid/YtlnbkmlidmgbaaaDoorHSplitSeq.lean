/- A range over a function whose closure keeps its place in a variable that it has captured (three variables captured, one of which it writes: as strings.SplitSeq's): what a loop's body owes, and what such a closure's contract says. No conditions. strings.SplitSeq at a comma: the pieces that it hands over, for every text. No conditions. -/
import Derived.RangeFuncNested
import Derived.RangeFuncBound
import Derived.RangeFuncCalls
import Derived.RangeFuncLeaves
import Derived.Shelf.Abstract
import Derived.Shelf.RegionOpen
import Derived.WalkKit
import Derived.OwnWalkIn
import Derived.TacticsInMore
import Derived.LoopNIn
import Derived.LoopIn
import Derived.Maps.AppendAt
import Derived.Test.YtlnbkmlidmgbaaaDoorProg
import Derived.Test.YtlnbkmlidmgbaaaDoorHStdE
import Derived.RangeFuncBox
import Derived.BigCall
import Derived.Lib.IndexLaws
section
namespace Go.Proofs.YtlnbkmlidmgbaaaDoor.P
open Go.RowKit Go.Shelf

/-- The captured variable lies in block b. -/
structure Lasts {β : Type} (b B : Nat) (J : β → World → Prop) : Prop where
  grown : ∀ s W W', J s W → W.grownBy W' none → J s W'
  store : ∀ s W v, J s W → J s (W.setCell ⟨b, 0, none⟩ v)
  turned : ∀ s (W : World) l o o', J s W → B ≤ l → W.heap[l]? = some o → o.isCells = false → J s (W.putObj l o')
/-- The closure's word: it hands over elements till they are all through or a round says no; its variable lies in block b; a round leaves b as it is. -/
def SeqBox3 {α : Type} (n : Nat) (P : Program) (g b : Nat) (encs : α → Array Value) (S Sp : List α → Prop) (w : World) : Prop :=
  ∀ (l : Nat) (J Jx : List α → World → Prop) (W : World), (∀ k, b ≤ k → k < b + 3 → W.heap[k]? = w.heap[k]?) →
    (∀ s A A', J s A → A.grownBy A' none → J s A') → (∀ s A v, J s A → J s (A.setCell ⟨b, 0, none⟩ v)) →
    (∀ pre x W1, J pre W1 → Sp (pre ++ [x]) → YieldAt Fence.wide (n - 1) P l (encs x) W1 fun e W' =>
      (e = .returned (.bool true) ∧ J (pre ++ [x]) W' ∧ ∀ k, b ≤ k → k < b + 3 → W'.heap[k]? = W1.heap[k]?) ∨ (e = .returned (.bool false) ∧ Jx (pre ++ [x]) W')) →
    J [] W →
    CallsIn Fence.wide n P g #[.func (.yield l) #[] #[], .pointer (some ⟨b + 1, 0, none⟩), .pointer (some ⟨b, 0, none⟩), .pointer (some ⟨b + 2, 0, none⟩)] W fun e W' => (∃ v, e = .returned v) ∧ ((∃ xs, S xs ∧ J xs W') ∨ (∃ pre, Sp pre ∧ Jx pre W'))
/-- How a round's body is left. -/
def leftBy3 {α : Type} (b : Nat) (I : List α → World → Prop) (Ix : Code → List α → World → Prop) (xs : List α) (W : World) : Exit → Act → World → Prop
  | .normal, _, W' => KeepsOthers W W' ∧ (∀ k, b ≤ k → k < b + 3 → W'.heap[k]? = W.heap[k]?) ∧ I xs W'
  | .ret, _, W' => KeepsOthers W W' ∧ Ix .ret xs W'
  | .exit id, _, W' => KeepsOthers W W' ∧ Ix (.exit id) xs W'
  | .goto t, _, W' => KeepsOthers W W' ∧ Ix (.goto t) xs W'
  | .panic _, _, _ => False
  | .outgrown, _, _ => False

theorem range_box3 {α : Type} {n : Nat} {P : Program} {g : Operand} {p : Tmp} {assign body : Code} {Q : Exit → Act → World → Prop} {a : Act} {w : World} {gf b : Nat}
    (h1 : 1 ≤ n) (hb : b + 2 < w.heap.size) (hg : a.eval g = .func (.func gf) #[] #[.pointer (some ⟨b + 1, 0, none⟩), .pointer (some ⟨b, 0, none⟩), .pointer (some ⟨b + 2, 0, none⟩)]) (eg : ∀ args w, (callFunc gf args).run P w = .ok (.enter gf args) w)
    {enc : α → Value} {S Sp : List α → Prop} (hseq : SeqBox3 (n - 1) P gf b (fun x => #[enc x]) S Sp w)
    (I : List α → World → Prop) (Ix : Code → List α → World → Prop) (hI : Lasts b w.heap.size I) (hIx : ∀ c, Lasts b w.heap.size (Ix c)) (h0 : I [] w) (a₁ : α → Act)
    (hassign : ∀ (l : Nat) (x : α) (W : World) (K : Act → World → Prop), K (a₁ x) W →
      assign.wpIn (Fence.wide.inRound l) (n - 1 - 1) P (Exit.then K (fun _ _ _ => False)) { tmps := a.tmps.setIfInBounds p (enc x), defers := [] } W)
    (hbody : ∀ (l : Nat) (pre : List α) (x : α) (W : World), I pre W → Sp (pre ++ [x]) → body.wpIn (Fence.wide.inRound l) (n - 1 - 1) P (leftBy3 b I Ix (pre ++ [x]) W) (a₁ x) W)
    (hdone : ∀ (D : Nat) (xs : List α) (W : World), w.heap.size ≤ D → S xs → I xs W → W.heap[D]? = some (.deferred (some [])) → Q .normal { a with defers := { target := .collected D, args := #[] } :: a.defers } W)
    (hstop : ∀ (D : Nat) (c : Code) (pre : List α) (W : World), w.heap.size ≤ D → Sp pre → Ix c pre W → W.heap[D]? = some (.deferred (some [])) → c.wpIn Fence.wide n P Q { a with defers := { target := .collected D, args := #[] } :: a.defers } W) :
    (Code.rangeFunc g #[p] assign body).wpIn Fence.wide n P Q a w := by
  refine wpIn_rangeFunc fun fn hfn => ?_
  obtain ⟨rec, hrec⟩ : ∃ rec : LoopState → Option Code → Loop, rec = fun st pe => { state := st, pending := pe, fn, tmps := a.tmps, params := #[p], assign, body, defers := w.heap.size } := ⟨_, rfl⟩
  obtain ⟨L, hL⟩ : ∃ L, L = w.heap.size + 1 := ⟨_, rfl⟩
  obtain ⟨W1, hW1⟩ : ∃ W1, W1 = (w.alloc (.deferred (some []))).alloc (.loop (rec .ready none)) := ⟨_, rfl⟩
  -- what the loop itself has laid
  let own (st : LoopState) (pe : Option Code) (W : World) : Prop := W.heap[L]? = some (.loop (rec st pe)) ∧ W.heap[w.heap.size]? = some (.deferred (some []))
  have lay : own .ready none W1 := by
    refine ⟨?_, ?_⟩
    · rw [hW1, hL]; have := World.alloc_heap_new (w.alloc (.deferred (some []))) (.loop (rec .ready none)); rwa [World.size_alloc] at this
    · rw [hW1]; exact (Below.heap_alloc _ _ _ (by simp)).trans (World.alloc_heap_new w _)
  have start : I [] W1 := by
    rw [hW1]
    exact hI.grown _ _ _ (hI.grown _ _ _ h0 (World.grownBy_alloc _ _ _)) (World.grownBy_alloc _ _ _)
  have same : ∀ k, b ≤ k → k < b + 3 → W1.heap[k]? = w.heap[k]? := by
    intro k _ hk
    rw [hW1, Below.heap_alloc _ _ _ (by simp; omega), Below.heap_alloc _ _ _ (by omega)]
  have grow : ∀ {st pe} {A A' : World}, own st pe A → A.grownBy A' none → own st pe A' := fun h hgr =>
    ⟨(grownBy_keeps hgr (fun r e => by cases e) h.1 rfl).trans h.1, (grownBy_keeps hgr (fun r e => by cases e) h.2 rfl).trans h.2⟩
  have put : ∀ {st pe} {A : World} (v : Value), own st pe A → own st pe (A.setCell ⟨b, 0, none⟩ v) := fun v h =>
    ⟨(Below.heap_setCell _ _ _ _ (by simp; omega)).trans h.1, (Below.heap_setCell _ _ _ _ (by simp; omega)).trans h.2⟩
  have flip : ∀ {st pe} {A : World} (o : Loop), own st pe A → (A.putObj L (.loop o)).heap[L]? = some (.loop o) ∧ (A.putObj L (.loop o)).heap[w.heap.size]? = some (.deferred (some [])) ∧ (∀ k, b ≤ k → k < b + 3 → (A.putObj L (.loop o)).heap[k]? = A.heap[k]?) := fun o h =>
    ⟨World.putObj_heap_same (Array.getElem?_eq_some_iff.1 h.1).1, (World.putObj_heap_other (by omega)).trans h.2, fun k _ hk => World.putObj_heap_other (by omega)⟩
  refine ⟨L, [{ target := .collected w.heap.size, args := #[] }], W1, { target := .fn (.func gf) #[.pointer (some ⟨b + 1, 0, none⟩), .pointer (some ⟨b, 0, none⟩), .pointer (some ⟨b + 2, 0, none⟩)], args := #[.func (.yield L) #[] #[]] }, W1, gf,
    #[.func (.yield L) #[] #[], .pointer (some ⟨b + 1, 0, none⟩), .pointer (some ⟨b, 0, none⟩), .pointer (some ⟨b + 2, 0, none⟩)], W1, ?_, ?_, fun _ _ => trivial, ?_, fun _ => h1, ?_⟩
  · rw [hL, hW1, hrec]; exact run_enterLoop_outer _ _ _ _ _
  · simp only [resolve, hg]
    simp [go_sem]
  · simp [invoke, go_sem, eg]
  refine (hseq L (fun pre W => I pre W ∧ own .ready none W) (fun pre W => ∃ c, Ix c pre W ∧ own .done (some c) W) W1 same
    (fun s A A' h hgr => ⟨hI.grown _ _ _ h.1 hgr, grow h.2 hgr⟩) (fun s A v h => ⟨hI.store _ _ _ h.1, put v h.2⟩) ?_ ⟨start, lay⟩).mono ?_
  · rintro pre x W ⟨hi, ho⟩ hsp
    have hy := run_yield (P := P) (args := #[enc x]) ho.1 (by rw [hrec]; rfl)
    rw [hrec] at hy
    refine ⟨fn, _, assign, body, hy, roundIn_of_wpIn hfn ?_⟩
    have hz : (#[p].zip #[enc x]).foldl (fun t (q, v) => t.setIfInBounds q v) a.tmps = a.tmps.setIfInBounds p (enc x) := by simp
    show assign.wpIn _ _ _ _ { tmps := (#[p].zip #[enc x]).foldl (fun t (q, v) => t.setIfInBounds q v) a.tmps, defers := [] } W
    rw [hz]
    refine hassign L x W _ ?_
    refine ⟨_, run_beginRound ho.1 (by rw [hrec]), ?_⟩
    obtain ⟨f1, f2, f3⟩ := flip { rec .ready none with state := .busy } ho
    refine wpIn_mono (hbody _ pre x _ (hI.turned _ _ _ _ _ hi (by omega) ho.1 rfl) hsp) ?_
    have ends : ∀ (jump : Option Code) (W3 : World), KeepsOthers (W.putObj L (.loop { rec .ready none with state := .busy })) W3 →
        (Instr.endRound L jump).run P W3 = .ok (.bool jump.isNone) (W3.putObj L (.loop (rec (if jump.isNone then .ready else .done) jump))) ∧
        W3.heap[L]? = some (.loop { rec .ready none with state := .busy }) ∧ own (if jump.isNone then .ready else .done) jump (W3.putObj L (.loop (rec (if jump.isNone then .ready else .done) jump))) ∧
        (∀ k, b ≤ k → k < b + 3 → (W3.putObj L (.loop (rec (if jump.isNone then .ready else .done) jump))).heap[k]? = W3.heap[k]?) := fun jump W3 hk => by
      have l3 := hk.same _ _ f1 rfl
      have d3 := hk.same _ _ f2 rfl
      have hr := run_endRound (P := P) jump l3
      refine ⟨by rw [hrec] at hr ⊢; exact hr, l3, ⟨World.putObj_heap_same (Array.getElem?_eq_some_iff.1 l3).1, (World.putObj_heap_other (by omega)).trans d3⟩, fun k _ hk => World.putObj_heap_other (by omega)⟩
    rintro e a3 W3 hp
    cases e with
    | normal =>
      obtain ⟨hr, l3, o3, b3⟩ := ends none W3 hp.1
      exact ⟨_, _, hr, .inl ⟨rfl, ⟨hI.turned _ _ _ _ _ hp.2.2 (by omega) l3 rfl, o3⟩, fun k h1 h2 => (b3 k h1 h2).trans ((hp.2.1 k h1 h2).trans (f3 k h1 h2))⟩⟩
    | ret =>
      obtain ⟨hr, l3, o3, b3⟩ := ends (some .ret) W3 hp.1
      exact ⟨_, _, hr, .inr ⟨rfl, .ret, (hIx _).turned _ _ _ _ _ hp.2 (by omega) l3 rfl, o3⟩⟩
    | exit id =>
      obtain ⟨hr, l3, o3, b3⟩ := ends (some (.exit id)) W3 hp.1
      exact ⟨_, _, hr, .inr ⟨rfl, .exit id, (hIx _).turned _ _ _ _ _ hp.2 (by omega) l3 rfl, o3⟩⟩
    | goto t =>
      obtain ⟨hr, l3, o3, b3⟩ := ends (some (.goto t)) W3 hp.1
      exact ⟨_, _, hr, .inr ⟨rfl, .goto t, (hIx _).turned _ _ _ _ _ hp.2 (by omega) l3 rfl, o3⟩⟩
    | panic ch => exact hp.elim
    | outgrown => exact hp.elim
  · rintro e W2 ⟨⟨v, rfl⟩, (⟨xs, hS, hi, ho⟩ | ⟨pre, hSp, c, hi, ho⟩)⟩
    · refine ⟨none, _, by have := run_endLoop (P := P) ho.1 (by rw [hrec]; simp); rw [hrec] at this; exact this, hdone _ xs _ (Nat.le_refl _) hS (hI.turned _ _ _ _ _ hi (by omega) ho.1 rfl) ((World.putObj_heap_other (by omega)).trans ho.2)⟩
    · refine ⟨some c, _, by have := run_endLoop (P := P) ho.1 (by rw [hrec]; simp); rw [hrec] at this; exact this, hstop _ c pre _ (Nat.le_refl _) hSp ((hIx c).turned _ _ _ _ _ hi (by omega) ho.1 rfl) ((World.putObj_heap_other (by omega)).trans ho.2)⟩
end Go.Proofs.YtlnbkmlidmgbaaaDoor.P
end

section
namespace Go.Proofs.YtlnbkmlidmgbaaaDoor.P
open Go.RowKit Go.Shelf Go.Lib Go.Proofs.YtlnbkmlidmgbaaaDoorW.PrintWords Go.Proofs.YtlnbkmlidmgbaaaDoorW.PrintLast Go.Proofs.YtlnbkmlidmgbaaaDoorW.PrintMore
set_option linter.unusedVariables false
set_option linter.unusedSimpArgs false
attribute [local go_sem] Oper.semAt_some

/-- A text's pieces, a comma between. -/
def splitC : List UInt8 → List (List UInt8)
  | [] => [[]]
  | c :: l => if c = 44 then [] :: splitC l else ((c :: (splitC l).headD []) :: (splitC l).tail)
theorem splitC_ne : ∀ l, splitC l ≠ []
  | [] => by simp [splitC]
  | c :: l => by unfold splitC; split <;> simp
theorem splitC_none : ∀ l : List UInt8, Lib.indexByte l 44 = -1 → splitC l = [l]
  | [], _ => rfl
  | c :: l, h => by
    unfold Lib.indexByte at h
    by_cases hc : c = 44
    · rw [if_pos (by simp [hc])] at h
      cases h
    · rw [if_neg (by simp [hc])] at h
      by_cases h1 : Lib.indexByte l 44 = -1
      · unfold splitC
        rw [if_neg hc, splitC_none l h1]
        rfl
      · rw [if_neg (by simp [h1])] at h
        have := Lib.indexByte_ge l 44
        omega
theorem splitC_some : ∀ (l : List UInt8) (i : Nat), Lib.indexByte l 44 = i → i < l.length ∧ splitC l = l.take i :: splitC (l.drop (i + 1))
  | [], i, h => by
    have : (-1 : Int) = i := h
    omega
  | c :: l, i, h => by
    unfold Lib.indexByte at h
    by_cases hc : c = 44
    · rw [if_pos (by simp [hc])] at h
      obtain rfl : i = 0 := by omega
      refine ⟨by simp, ?_⟩
      conv => lhs; unfold splitC
      rw [if_pos hc]
      rfl
    · rw [if_neg (by simp [hc])] at h
      by_cases h1 : Lib.indexByte l 44 = -1
      · rw [if_pos (by simp [h1])] at h
        omega
      · rw [if_neg (by simp [h1])] at h
        have := Lib.indexByte_ge l 44
        obtain ⟨j, rfl⟩ : ∃ j, i = j + 1 := ⟨i - 1, by omega⟩
        obtain ⟨h2, h3⟩ := splitC_some l j (by omega)
        refine ⟨by simp; omega, ?_⟩
        conv => lhs; unfold splitC
        rw [if_neg hc, h3]
        rfl
def fieldsB (s : ByteArray) : List ByteArray := (splitC s.data.toList).map tx
theorem tx_toList (s : ByteArray) : tx s.data.toList = s := by cases s; rfl
theorem fieldsB_none (s : ByteArray) (h : Lib.indexByte s.data.toList 44 = -1) : fieldsB s = [s] := by
  unfold fieldsB
  rw [splitC_none _ h]
  simp [tx_toList]
theorem extract_tx (s : ByteArray) (a b : Nat) (hb : b ≤ s.size) : s.extract a b = tx ((s.data.toList.take b).drop a) := by
  apply ByteArray.ext
  apply Array.toList_inj.1
  simp [tx, List.drop_take]
theorem fieldsB_some (s : ByteArray) (i : Nat) (h : Lib.indexByte s.data.toList 44 = i) : i < s.size ∧ fieldsB s = s.extract 0 i :: fieldsB (s.extract (i + 1) s.size) := by
  obtain ⟨h1, h2⟩ := splitC_some _ i h
  have hz : i < s.size := by rw [Lib.size_eq]; exact h1
  refine ⟨hz, ?_⟩
  rw [extract_tx _ _ _ (Nat.le_of_lt hz), extract_tx _ _ _ (Nat.le_refl _)]
  conv => lhs; unfold fieldsB
  rw [h2, List.map_cons]
  congr 1
  unfold fieldsB
  congr 2
  have : s.data.toList.take s.size = s.data.toList := List.take_of_length_le (by rw [Lib.size_eq]; exact Nat.le_refl _)
  rw [this]
  simp [tx]

set_option maxRecDepth 100000 in
theorem index_one (s : ByteArray) (c : UInt8) (w : World) :
    Calls Tryd.prog 59 #[.string s, .string ⟨#[c]⟩] w fun e w' => e = .returned (.int .i64 (Lib.indexByte s.data.toList c)) ∧ w' = w := by
  go_enter Tryd.func59, Tryd.ntmps59
  go_wp2_with (go_at_call 70; refine (Tryd.stringslite_Index_one s c _).mono ?_; rintro e w' ⟨rfl, rfl⟩)
  go_ret
  exact ⟨rfl, rfl⟩
set_option maxRecDepth 100000 in
theorem splitSeq0_calls (s sep : ByteArray) (w : World) :
    Calls Tryd.prog 44 #[.string s, .string sep, .int .i64 0] w fun e w' => e = .returned (.func (.func 57) #[] #[.pointer (some ⟨w.heap.size + 1, 0, none⟩), .pointer (some ⟨w.heap.size, 0, none⟩), .pointer (some ⟨w.heap.size + 2, 0, none⟩)]) ∧ w' = ((w.alloc (.cells #[.string s] 9)).alloc (.cells #[.string sep] 9)).alloc (.cells #[.int .i64 0] 3) := by
  go_enter Tryd.func44, Tryd.ntmps44
  go_wp2
  go_ret
  exact ⟨by simp, rfl⟩
set_option maxRecDepth 100000 in
theorem splitSeq_calls (s sep : ByteArray) (w : World) :
    Calls Tryd.prog 28 #[.string s, .string sep] w fun e w' => e = .returned (.func (.func 57) #[] #[.pointer (some ⟨w.heap.size + 1, 0, none⟩), .pointer (some ⟨w.heap.size, 0, none⟩), .pointer (some ⟨w.heap.size + 2, 0, none⟩)]) ∧ w' = ((w.alloc (.cells #[.string s] 9)).alloc (.cells #[.string sep] 9)).alloc (.cells #[.int .i64 0] 3) := by
  go_enter Tryd.func28, Tryd.ntmps28
  go_wp2_with (go_at_call 44; refine (splitSeq0_calls s sep _).mono ?_; rintro e w' ⟨rfl, rfl⟩)
  go_ret
  exact ⟨rfl, rfl⟩

/-- How long the text in a box is. -/
def boxLen (b : Nat) (W : World) : Nat := match W.heap[b]? with
  | some (.cells #[.string t] _ _) => t.size
  | _ => 0
theorem boxLen_eq {b : Nat} {W : World} {t : ByteArray} {ty : TypeId} (h : Boxed W b ty (.string t)) : boxLen b W = t.size := by
  unfold boxLen
  rw [show W.heap[b]? = _ from h]
  rfl

set_option maxRecDepth 100000 in
set_option maxHeartbeats 4000000 in
theorem splitSeq_box (n b : Nat) (hn : 1 ≤ n) (s : ByteArray) (w : World) (hs : s.size ≤ 9223372036854775806) (hb : Boxed w b 9 (.string s)) (hp : Boxed w (b + 1) 9 (.string ⟨#[44]⟩)) (hz : Boxed w (b + 2) 3 (.int .i64 0)) :
    SeqBox3 n Tryd.prog 57 b (fun x : ByteArray => #[.string x]) (fun xs => xs = fieldsB s) (fun pre => pre <+: fieldsB s) w := by
  intro l J Jx W hsame hgrow hstore hY h0
  have hbW : Boxed W b 9 (.string s) := (hsame b (Nat.le_refl _) (by omega)).trans hb
  have hpW : Boxed W (b + 1) 9 (.string ⟨#[44]⟩) := (hsame (b + 1) (by omega) (by omega)).trans hp
  have hzW : Boxed W (b + 2) 3 (.int .i64 0) := (hsame (b + 2) (by omega) (by omega)).trans hz
  have hpc := hpW.cell
  have hpf := hpW.frozen
  refine callsIn_of_wp Tryd.func57 rfl trivial ?_ rfl
  simp only [Tryd.ntmps57, List.size_toArray, List.length_cons, List.length_nil, Nat.reduceAdd, Nat.reduceSub, Array.replicate_succ, Array.replicate_zero, List.push_toArray, List.append_toArray, List.nil_append, List.cons_append]
  gi_wp2
  gi_loopw [] (fun wr => ∃ (pre : List ByteArray) (t : ByteArray), Boxed wr b 9 (.string t) ∧ Boxed wr (b + 1) 9 (.string ⟨#[44]⟩) ∧ Boxed wr (b + 2) 3 (.int .i64 0) ∧ fieldsB s = pre ++ fieldsB t ∧ J pre wr ∧ t.size ≤ s.size) (fun wr => boxLen b wr)
  case atStart => exact ⟨[], s, hbW, hpW, hzW, rfl, h0, Nat.le_refl _⟩
  case round =>
    clear hpc hpf
    obtain ⟨pre, t, hbx, hpx, hzx, hsp, hJ, hts⟩ := hrel
    have hc := hbx.cell
    have hf := hbx.frozen
    have hpc := hpx.cell
    have hpf := hpx.frozen
    have hzc := hzx.cell
    have hzf := hzx.frozen
    have HS := Aside0.mk hsp
    clear hsp
    by_cases hix : Lib.indexByte t.data.toList 44 = -1
    · have hfl := fieldsB_none t hix
      have HF := Aside0.mk hfl
      clear hfl
      gi_wp2_with (refine ⟨trivial, ?_⟩; gi_at_call 59; refine (callsIn_wide.2 (index_one t 44 _)).mono ?_; rintro e w1 ⟨rfl, rfl⟩; rw [hix]; obtain ⟨fn_, tmps_, assign_, body_, hy, hR⟩ := hY pre t _ hJ ⟨[], by rw [HS.out, HF.out, List.append_nil]⟩)
      refine hR.mono ?_
      rintro e W3 (⟨rfl, hJ3, hk3⟩ | ⟨rfl, hJx3⟩)
      · gi_wp2
        go_end0
        exact ⟨⟨_, rfl⟩, .inl ⟨pre ++ [t], by rw [HS.out, HF.out], hJ3⟩⟩
      · gi_wp2
        go_end0
        exact ⟨⟨_, rfl⟩, .inr ⟨pre ++ [t], ⟨[], by rw [HS.out, HF.out, List.append_nil]⟩, hJx3⟩⟩
    · have hge := Lib.indexByte_ge t.data.toList 44
      obtain ⟨i, hi⟩ : ∃ i : Nat, Lib.indexByte t.data.toList 44 = i := ⟨(Lib.indexByte t.data.toList 44).toNat, by omega⟩
      obtain ⟨hil, hfl⟩ := fieldsB_some t i hi
      clear hix hge
      have hrl : (t.extract (i + 1) t.size).size < t.size := by rw [ByteArray.size_extract]; omega
      have HF := Aside0.mk hfl
      have HRL := Aside0.mk hrl
      clear hfl hrl
      have q0 : (0 : Int) ≤ (i : Int) := by omega
      have q1 : (i : Int) ≤ (t.size : Int) := by omega
      have q2 : (0 : Int) ≤ (i : Int) + 1 := by omega
      have q3 : (i : Int) + 1 ≤ (t.size : Int) := by omega
      have q4 : ¬ ((i : Int) < 0) := by omega
      gi_wp2_with (refine ⟨trivial, ?_⟩; gi_at_call 59; refine (callsIn_wide.2 (index_one t 44 _)).mono ?_; rintro e w1 ⟨rfl, rfl⟩; rw [hi]; obtain ⟨fn_, tmps_, assign_, body_, hy, hR⟩ := hY pre (t.extract 0 i) _ hJ ⟨fieldsB (t.extract (i + 1) t.size), by rw [HS.out, HF.out, List.append_assoc]; rfl⟩)
      refine hR.mono ?_
      rintro e W3 (⟨rfl, hJ3, hk3⟩ | ⟨rfl, hJx3⟩)
      · have hx3 : Boxed W3 b 9 (.string t) := (hk3 b (Nat.le_refl _) (by omega)).trans hbx
        have hp3 : Boxed W3 (b + 1) 9 (.string ⟨#[44]⟩) := (hk3 (b + 1) (by omega) (by omega)).trans hpx
        have hz3 : Boxed W3 (b + 2) 3 (.int .i64 0) := (hk3 (b + 2) (by omega) (by omega)).trans hzx
        have hc3 := hx3.cell
        have hf3 := hx3.frozen
        have hpc3 := hp3.cell
        have hpf3 := hp3.frozen
        have hx4 : Boxed (W3.setCell ⟨b, 0, none⟩ (.string (t.extract (i + 1) t.size))) b 9 (.string (t.extract (i + 1) t.size)) := Boxed.set (W := W3) _ hx3
        gi_wp2
        go_roundw
        case rel =>
          exact ⟨pre ++ [t.extract 0 i], t.extract (i + 1) t.size, hx4, (Below.heap_setCell _ _ _ _ (by simp)).trans hp3, (Below.heap_setCell _ _ _ _ (by simp)).trans hz3, by rw [HS.out, HF.out, List.append_assoc]; rfl, hstore _ _ _ hJ3, by have := HRL.out; omega⟩
        case measure => rw [boxLen_eq hbx, boxLen_eq hx4]; exact HRL.out
      · gi_wp2
        refine bodyPost_ret (results_none rfl _ _ _) rfl ?_
        exact ⟨⟨_, rfl⟩, .inr ⟨pre ++ [t.extract 0 i], ⟨fieldsB (t.extract (i + 1) t.size), by rw [HS.out, HF.out, List.append_assoc]; rfl⟩, hJx3⟩⟩
end Go.Proofs.YtlnbkmlidmgbaaaDoor.P
end
