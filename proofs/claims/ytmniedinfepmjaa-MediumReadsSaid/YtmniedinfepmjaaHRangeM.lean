/- A range over a function whose closure keeps its place in an object that it has captured (block g; the variable that holds its pointer lies in block b): what a loop's body owes, and what such a closure's contract says. No conditions. -/
import Derived.RangeFuncNested
import Derived.RangeFuncBound
import Derived.RangeFuncCalls
import Derived.RangeFuncLeaves
import Derived.RangeFuncBox
import Derived.Shelf.Abstract
import Derived.Shelf.RegionOpen
import Derived.WalkKit
import Derived.OwnWalkIn
import Derived.TacticsInMore
import Derived.LoopNIn
import Derived.LoopIn
import Derived.Maps.AppendAt
import Derived.Test.YtmniedinfepmjaaProg
namespace Go.Proofs.Ytmniedinfepmjaa.P
open Go.RowKit Go.Shelf

/-- What a round leaves as it was. -/
def KK (D b : Nat) (A A' : World) : Prop := Below D A A' ∧ A'.heap[b]? = A.heap[b]?
structure LastsM {β : Type} (g B : Nat) (J : β → World → Prop) : Prop where
  grown : ∀ s W W', J s W → W.grownBy W' (some g) → J s W'
  turned : ∀ s (W : World) l o o', J s W → B ≤ l → W.heap[l]? = some o → o.isCells = false → J s (W.putObj l o')
/-- The closure's word. -/
def SeqM {α : Type} (n : Nat) (P : Program) (gf g b D : Nat) (encs : α → Array Value) (T0 : World → Prop) (Ok : α → World → Prop) (Sp Fin : List α → Prop) (Te : World → Prop) : Prop :=
  ∀ (l : Nat) (J : List α → World → Prop) (W : World),
    (∀ s A A', J s A → A.grownBy A' (some g) → J s A') →
    (∀ pre x W1, J pre W1 → Ok x W1 → Sp (pre ++ [x]) → YieldAt Fence.wide (n - 1) P l (encs x) W1 fun e W' => e = .returned (.bool true) ∧ J (pre ++ [x]) W' ∧ KK D b W1 W') →
    J [] W → T0 W →
    CallsIn Fence.wide n P gf #[.func (.yield l) #[] #[], .pointer (some ⟨b, 0, none⟩)] W fun e W' => (∃ v, e = .returned v) ∧ ∃ xs, Fin xs ∧ J xs W' ∧ Te W'

theorem range_m {α : Type} {n : Nat} {P : Program} {gop : Operand} {p : Tmp} {assign body : Code} {Q : Exit → Act → World → Prop} {a : Act} {w : World} {gf g b D : Nat}
    (h1 : 1 ≤ n) (hb : b < w.heap.size) (hgw : g < w.heap.size) (hDw : D ≤ w.heap.size) (hg : a.eval gop = .func (.func gf) #[] #[.pointer (some ⟨b, 0, none⟩)]) (eg : ∀ args w, (callFunc gf args).run P w = .ok (.enter gf args) w)
    {enc : α → Value} {T0 Te : World → Prop} {Ok : α → World → Prop} {Sp Fin : List α → Prop} (hseq : SeqM (n - 1) P gf g b D (fun x => #[enc x]) T0 Ok Sp Fin Te)
    (I : List α → World → Prop) (hI : LastsM g w.heap.size I) (hT : ∀ W W', T0 W → W.grownBy W' none → T0 W') (hOk : ∀ x (W : World) l o o', Ok x W → w.heap.size ≤ l → W.heap[l]? = some o → o.isCells = false → Ok x (W.putObj l o'))
    (hTe : ∀ (W : World) l o o', Te W → w.heap.size ≤ l → W.heap[l]? = some o → o.isCells = false → Te (W.putObj l o'))
    (h0 : I [] w) (t0 : T0 w) (a₁ : α → Act)
    (hassign : ∀ (l : Nat) (x : α) (W : World) (K : Act → World → Prop), K (a₁ x) W →
      assign.wpIn (Fence.wide.inRound l) (n - 1 - 1) P (Exit.then K (fun _ _ _ => False)) { tmps := a.tmps.setIfInBounds p (enc x), defers := [] } W)
    (hbody : ∀ (l : Nat) (pre : List α) (x : α) (W : World), I pre W → Ok x W → Sp (pre ++ [x]) → body.wpIn (Fence.wide.inRound l) (n - 1 - 1) P (fun e _ W' => e = .normal ∧ KeepsOthers W W' ∧ KK D b W W' ∧ I (pre ++ [x]) W') (a₁ x) W)
    (hdone : ∀ (E : Nat) (xs : List α) (W : World), w.heap.size ≤ E → Fin xs → I xs W → Te W → W.heap[E]? = some (.deferred (some [])) → Q .normal { a with defers := { target := .collected E, args := #[] } :: a.defers } W) :
    (Code.rangeFunc gop #[p] assign body).wpIn Fence.wide n P Q a w := by
  refine wpIn_rangeFunc fun fn hfn => ?_
  obtain ⟨rec, hrec⟩ : ∃ rec : LoopState → Option Code → Loop, rec = fun st pe => { state := st, pending := pe, fn, tmps := a.tmps, params := #[p], assign, body, defers := w.heap.size } := ⟨_, rfl⟩
  obtain ⟨L, hL⟩ : ∃ L, L = w.heap.size + 1 := ⟨_, rfl⟩
  obtain ⟨W1, hW1⟩ : ∃ W1, W1 = (w.alloc (.deferred (some []))).alloc (.loop (rec .ready none)) := ⟨_, rfl⟩
  let own (st : LoopState) (pe : Option Code) (W : World) : Prop := W.heap[L]? = some (.loop (rec st pe)) ∧ W.heap[w.heap.size]? = some (.deferred (some []))
  have lay : own .ready none W1 := by
    refine ⟨?_, ?_⟩
    · rw [hW1, hL]; have := World.alloc_heap_new (w.alloc (.deferred (some []))) (.loop (rec .ready none)); rwa [World.size_alloc] at this
    · rw [hW1]; exact (Below.heap_alloc _ _ _ (by simp)).trans (World.alloc_heap_new w _)
  have start : I [] W1 := by
    rw [hW1]
    exact hI.grown _ _ _ (hI.grown _ _ _ h0 (World.grownBy_alloc _ _ _)) (World.grownBy_alloc _ _ _)
  have tstart : T0 W1 := by
    rw [hW1]
    exact hT _ _ (hT _ _ t0 (World.grownBy_alloc _ _ _)) (World.grownBy_alloc _ _ _)
  have grow : ∀ {st pe} {A A' : World}, own st pe A → A.grownBy A' (some g) → own st pe A' := fun h hgr =>
    ⟨(hgr.block _ (Array.getElem?_eq_some_iff.1 h.1).1 (fun e => by cases e; omega)).trans h.1, (hgr.block _ (Array.getElem?_eq_some_iff.1 h.2).1 (fun e => by cases e; omega)).trans h.2⟩
  have flip : ∀ {st pe} {A : World} (o : Loop), own st pe A → (A.putObj L (.loop o)).heap[L]? = some (.loop o) ∧ (A.putObj L (.loop o)).heap[w.heap.size]? = some (.deferred (some [])) ∧ KK D b A (A.putObj L (.loop o)) := fun o h =>
    ⟨World.putObj_heap_same (Array.getElem?_eq_some_iff.1 h.1).1, (World.putObj_heap_other (by omega)).trans h.2, ⟨rfl, rfl, rfl, by simp [World.putObj], fun k hk => World.putObj_heap_other (by omega)⟩, World.putObj_heap_other (by omega)⟩
  refine ⟨L, [{ target := .collected w.heap.size, args := #[] }], W1, { target := .fn (.func gf) #[.pointer (some ⟨b, 0, none⟩)], args := #[.func (.yield L) #[] #[]] }, W1, gf,
    #[.func (.yield L) #[] #[], .pointer (some ⟨b, 0, none⟩)], W1, ?_, ?_, fun _ _ => trivial, ?_, fun _ => h1, ?_⟩
  · rw [hL, hW1, hrec]; exact run_enterLoop_outer _ _ _ _ _
  · simp only [resolve, hg]
    simp [go_sem]
  · simp [invoke, go_sem, eg]
  refine (hseq L (fun pre W => I pre W ∧ own .ready none W) W1 (fun s A A' h hgr => ⟨hI.grown _ _ _ h.1 hgr, grow h.2 hgr⟩) ?_ ⟨start, lay⟩ tstart).mono ?_
  · rintro pre x W ⟨hi, ho⟩ hok hsp
    have hy := run_yield (P := P) (args := #[enc x]) ho.1 (by rw [hrec]; rfl)
    rw [hrec] at hy
    refine ⟨fn, _, assign, body, hy, roundIn_of_wpIn hfn ?_⟩
    have hz : (#[p].zip #[enc x]).foldl (fun t (q, v) => t.setIfInBounds q v) a.tmps = a.tmps.setIfInBounds p (enc x) := by simp
    show assign.wpIn _ _ _ _ { tmps := (#[p].zip #[enc x]).foldl (fun t (q, v) => t.setIfInBounds q v) a.tmps, defers := [] } W
    rw [hz]
    refine hassign L x W _ ?_
    refine ⟨_, run_beginRound ho.1 (by rw [hrec]), ?_⟩
    obtain ⟨f1, f2, f3⟩ := flip { rec .ready none with state := .busy } ho
    refine wpIn_mono (hbody _ pre x _ (hI.turned _ _ _ _ _ hi (by omega) ho.1 rfl) (hOk _ _ _ _ _ hok (by omega) ho.1 rfl) hsp) ?_
    rintro e a3 W3 ⟨rfl, hk, hkk, hi3⟩
    have l3 := hk.same _ _ f1 rfl
    have d3 := hk.same _ _ f2 rfl
    have hr := run_endRound (P := P) none l3
    have o3 : own .ready none (W3.putObj L (.loop (rec .ready none))) := ⟨World.putObj_heap_same (Array.getElem?_eq_some_iff.1 l3).1, (World.putObj_heap_other (by omega)).trans d3⟩
    refine ⟨_, _, by rw [hrec] at hr ⊢; exact hr, rfl, ⟨hI.turned _ _ _ _ _ hi3 (by omega) l3 rfl, o3⟩, ?_⟩
    refine ⟨(f3.1.trans hkk.1).trans ⟨rfl, rfl, rfl, by simp [World.putObj], fun k hk => World.putObj_heap_other (by omega)⟩, ?_⟩
    exact (World.putObj_heap_other (by omega)).trans (hkk.2.trans f3.2)
  · rintro e W2 ⟨⟨v, rfl⟩, ⟨xs, hS, ⟨hi, ho⟩, hte⟩⟩
    exact ⟨none, _, by have := run_endLoop (P := P) ho.1 (by rw [hrec]; simp); rw [hrec] at this; exact this, hdone _ xs _ (Nat.le_refl _) hS (hI.turned _ _ _ _ _ hi (by omega) ho.1 rfl) (hTe _ _ _ _ hte (by omega) ho.1 rfl) ((World.putObj_heap_other (by omega)).trans ho.2)⟩
end Go.Proofs.Ytmniedinfepmjaa.P
