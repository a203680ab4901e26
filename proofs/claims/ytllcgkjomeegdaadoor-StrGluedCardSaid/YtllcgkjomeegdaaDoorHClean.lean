/- str.Clean: what it hands back, for every text of at most 2^32 bytes. No conditions. -/
import Derived.Test.YtllcgkjomeegdaaDoorHSplit
import Derived.Lib.Join
namespace Go.Proofs.YtllcgkjomeegdaaDoor.P
open Go.RowKit Go.Shelf Go.Lib Go.Proofs.YtllcgkjomeegdaaDoorW.PrintWords Go.Proofs.YtllcgkjomeegdaaDoorW.PrintLast Go.Proofs.YtllcgkjomeegdaaDoorW.PrintMore
set_option linter.unusedVariables false
set_option linter.unusedSimpArgs false
attribute [local go_sem] Oper.semAt_some

def dots : ByteArray := ⟨#[46, 46]⟩
def joinL (l : List ByteArray) : List UInt8 := Lib.join (l.map (·.data.toList)) [47]
/-- Does a name lead up? -/
def upB (l : List ByteArray) : Bool := l.any fun x => x.toList == [46, 46]
def cleanF (s : ByteArray) : ByteArray × Bool :=
  if Lib.hasPrefix s.data.toList [47] = true then (ByteArray.empty, false) else if upB (splitL s.data.toList) = true then (ByteArray.empty, false) else (txt (joinL (splitL s.data.toList)), true)
def str_Clean.f (a0 : ByteArray) : Option (ByteArray × Bool) := if a0.size ≤ 4294967296 then some (cleanF a0) else none

/-- How long names are, each with a slash. -/
def sumL : List ByteArray → Nat
  | [] => 0
  | x :: t => x.size + 1 + sumL t
theorem sumL_append : ∀ (a b : List ByteArray), sumL (a ++ b) = sumL a + sumL b
  | [], b => by simp [sumL]
  | x :: t, b => by simp [sumL, sumL_append t b]; omega
theorem cut_sum (s : List UInt8) : (Lib.cut s [47]).1.length + 1 + (Lib.cut s [47]).2.1.length ≤ s.length ∨ ((Lib.cut s [47]).2.1 = [] ∧ (Lib.cut s [47]).1.length ≤ s.length) := by
  unfold Lib.cut
  split
  · rename_i h
    have := Lib.index_room s [47] h
    refine .inl ?_
    simp only [List.length_take, List.length_drop, List.length_cons, List.length_nil] at *
    omega
  · exact .inr ⟨rfl, Nat.le_refl _⟩
theorem txt_size (l : List UInt8) : (txt l).size = l.length := by rw [Lib.size_eq]; rfl
theorem splitL_sum : ∀ (n : Nat) (s : List UInt8), s.length ≤ n → sumL (splitL s) ≤ s.length + 1
  | 0, s, h => by
    obtain rfl : s = [] := List.eq_nil_of_length_eq_zero (by omega)
    simp [splitL, namesL, sumL]
  | n + 1, s, h => by
    by_cases h0 : s = []
    · subst h0; simp [splitL, namesL, sumL]
    · have h1 := cut_less s h0
      have h2 := splitL_sum n (Lib.cut s [47]).2.1 (by omega)
      have h3 := cut_sum s
      have h4 : (Lib.cut s [47]).1.length + 1 + sumL (splitL (Lib.cut s [47]).2.1) ≤ s.length + 1 := by
        rcases h3 with h3 | ⟨h3, h5⟩
        · omega
        · rw [h3]
          simp only [splitL_nil, sumL]
          omega
      rw [splitL_step s h0, sumL_append]
      split
      · simp only [sumL, txt_size]
        omega
      · simp only [sumL]
        omega
theorem joinTail_sum : ∀ (l : List ByteArray), (Lib.joinTail [47] (l.map (·.data.toList))).length = sumL l
  | [] => rfl
  | x :: t => by
    have ih := joinTail_sum t
    have hx := Lib.size_eq x
    unfold Lib.joinTail at ih ⊢
    simp only [List.map_cons, List.flatten_cons, List.length_append, sumL, List.length_cons, List.length_nil, ih]
    omega
theorem joinL_length (l : List ByteArray) : (joinL l).length ≤ sumL l := by
  cases l with
  | nil => simp [joinL, Lib.join_nil, sumL]
  | cons x t =>
    unfold joinL
    rw [List.map_cons, Lib.join_cons, List.length_append, joinTail_sum, ← Lib.size_eq]
    simp only [sumL]
    omega
theorem upB_append (a b : List ByteArray) : upB (a ++ b) = (upB a || upB b) := by simp [upB]

/-- What the loop of Clean keeps. -/
def CleanI (w : World) (pre : List ByteArray) (W : World) : Prop :=
  (Boxed W w.heap.size 9 (.string ByteArray.empty) ∧ Boxed W (w.heap.size + 1) 4 (.bool false)) ∧ (Below w.heap.size w W ∧ w.heap.size + 3 ≤ W.heap.size) ∧ upB pre = false
def CleanX (w : World) (c : Code) (pre : List ByteArray) (W : World) : Prop :=
  c = .ret ∧ (Boxed W w.heap.size 9 (.string ByteArray.empty) ∧ Boxed W (w.heap.size + 1) 4 (.bool false)) ∧ (Below w.heap.size w W ∧ w.heap.size + 3 ≤ W.heap.size) ∧ upB pre = true
def CleanB (w : World) (W : World) : Prop :=
  (Boxed W w.heap.size 9 (.string ByteArray.empty) ∧ Boxed W (w.heap.size + 1) 4 (.bool false)) ∧ (Below w.heap.size w W ∧ w.heap.size + 3 ≤ W.heap.size)
theorem cleanB_grown {w W W' : World} : CleanB w W → W.grownBy W' none → CleanB w W' := fun ⟨⟨h1, h2⟩, hb, hz⟩ hg => ⟨⟨h1.kept hg (by simp), h2.kept hg (by simp)⟩, hb.grown hg (by omega) (fun k e => by cases e), Nat.le_trans hz hg.size⟩
theorem cleanB_store {w W : World} (v : Value) : CleanB w W → CleanB w (W.setCell ⟨w.heap.size + 2, 0, none⟩ v) := fun ⟨⟨h1, h2⟩, hb, hz⟩ =>
  ⟨⟨(Below.heap_setCell _ _ _ _ (by simp)).trans h1, (Below.heap_setCell _ _ _ _ (by simp)).trans h2⟩, hb.setCell (p := ⟨w.heap.size + 2, 0, none⟩) (by simp) v, Nat.le_trans hz (grownBy_setCell' W (w.heap.size + 2) v).size⟩
theorem cleanB_turned {w W : World} {l : Nat} {o : Obj} (o' : Obj) : CleanB w W → w.heap.size + 3 ≤ l → W.heap[l]? = some o → CleanB w (W.putObj l o') := fun ⟨⟨h1, h2⟩, hb, hz⟩ hl ho =>
  ⟨⟨(World.putObj_heap_other (by omega)).trans h1, (World.putObj_heap_other (by omega)).trans h2⟩, hb.grown (grownBy_putObj' W l o') (by omega) (fun k e => by cases e; omega), Nat.le_trans hz (grownBy_putObj' W l o').size⟩
theorem cleanI_lasts (w : World) : Lasts (w.heap.size + 2) (w.heap.size + 3) (CleanI w) where
  grown := fun s W W' h hg => by have := cleanB_grown ⟨h.1, h.2.1⟩ hg; exact ⟨this.1, this.2, h.2.2⟩
  store := fun s W v h => by have := cleanB_store v ⟨h.1, h.2.1⟩; exact ⟨this.1, this.2, h.2.2⟩
  turned := fun s W l o o' h hl ho _ => by have := cleanB_turned o' ⟨h.1, h.2.1⟩ hl ho; exact ⟨this.1, this.2, h.2.2⟩
theorem cleanX_lasts (w : World) (c : Code) : Lasts (w.heap.size + 2) (w.heap.size + 3) (CleanX w c) where
  grown := fun s W W' h hg => by have := cleanB_grown ⟨h.2.1, h.2.2.1⟩ hg; exact ⟨h.1, this.1, this.2, h.2.2.2⟩
  store := fun s W v h => by have := cleanB_store v ⟨h.2.1, h.2.2.1⟩; exact ⟨h.1, this.1, this.2, h.2.2.2⟩
  turned := fun s W l o o' h hl ho _ => by have := cleanB_turned o' ⟨h.2.1, h.2.2.1⟩ hl ho; exact ⟨h.1, this.1, this.2, h.2.2.2⟩

/-- strings.Join at a row of the call's own. -/
theorem join_R (v : Value) (l : List ByteArray) (w : World) {base : Nat} (h : Kd.R Kd.string 9 w base (fun _ => True) v l) (hn : l.length ≤ 140737488355328) (hj : (joinL l).length ≤ 140737488355328) :
    Calls Tryd.prog 29 #[v, .string ⟨#[47]⟩] w fun e w' => e = .returned (.string (txt (joinL l))) ∧ Below w.heap.size w w' := by
  have ho := Kd.own_of_R (enc := Value.string) (h1 := fun _ => rfl) h
  obtain ⟨hl, ⟨rfl, h0⟩ | ⟨g, cap, cur, rfl, hb, hg, hc, hm, hs, ht⟩⟩ := ho
  · have e : l = [] := List.eq_nil_of_length_eq_zero h0
    subst e
    exact (Tryd.strings_Join_none none 0 ⟨#[47]⟩ w).mono (fun e w' hw => ⟨hw.1, by rw [hw.2]; exact Below.refl _ _⟩)
  · refine (Tryd.strings_Join g 0 cap l ⟨#[47]⟩ w (fun j x hx => ?_) (Array.getElem?_eq_some_iff.1 hg).1 hn hc hj).mono (fun e w' hw => hw)
    have hx2 : (encs Value.string l)[j]? = some (.string x) := by simp [encs, hx]
    rw [← ht] at hx2
    have hx3 : cur.toList[j]? = some (.string x) := by
      rw [List.getElem?_take] at hx2
      split at hx2
      · exact hx2
      · cases hx2
    unfold World.cell?
    rw [hg, Nat.zero_add]
    simpa using hx3
set_option maxRecDepth 100000 in
set_option maxHeartbeats 4000000 in
theorem str_Clean.calls (a0 : ByteArray) (r1 : ByteArray) (r2 : Bool) (w : World) (h : str_Clean.f a0 = some (r1, r2)) :
    Calls Tryd.prog 14 #[.string a0] w fun e w' => e = .returned (.tuple #[.string r1, .bool r2]) ∧ Below w.heap.size w w' := by
  unfold str_Clean.f at h
  by_cases hs : a0.size ≤ 4294967296
  · rw [if_pos hs] at h
    have h2 := Option.some.inj h
    clear h
    unfold cleanF at h2
    obtain ⟨px, hpx⟩ : ∃ px, Lib.hasPrefix a0.data.toList [47] = px := ⟨_, rfl⟩
    have hpc : ∀ W, Calls Tryd.prog 28 #[.string a0, .string ⟨#[47]⟩] W fun e w' => e = .returned (.bool px) ∧ w' = W := fun W => by
      have := Tryd.strings_HasPrefix a0 ⟨#[47]⟩ W
      rw [show ((⟨#[47]⟩ : ByteArray).data.toList) = [47] from rfl, hpx] at this
      exact this
    rw [hpx] at h2
    have HP := Aside0.mk hpc
    clear hpc hpx
    refine (callsIn_wide (n := 3)).1 ?_
    refine callsIn_of_wp_marks Tryd.func14 rfl trivial ?_ rfl
    simp only [Tryd.ntmps14, List.size_toArray, List.length_cons, List.length_nil, Nat.reduceAdd, Nat.reduceSub, Array.replicate_succ, Array.replicate_zero, List.push_toArray, List.append_toArray, List.nil_append, List.cons_append]
    cases px with
    | true =>
      rw [if_pos rfl] at h2
      obtain ⟨rfl, rfl⟩ := Prod.mk.inj h2
      gi_wp2_with (refine ⟨trivial, ?_⟩; gi_at_call 28; refine (callsIn_wide.2 (HP.out _)).mono ?_; rintro e w1 ⟨rfl, rfl⟩)
      refine ⟨.tuple #[.string ByteArray.empty, .bool false], ?_, rfl, (Below.refl _ w).alloc (Nat.le_refl _) _ |>.alloc (by simp) _⟩
      simp [results, Tryd.f14, go_sem]
      rfl
    | false =>
      rw [if_neg (by simp)] at h2
      gi_wp2_with (refine ⟨trivial, ?_⟩; first | (gi_at_call 28; refine (callsIn_wide.2 (HP.out _)).mono ?_; rintro e w1 ⟨rfl, rfl⟩) | (gi_at_call 25; refine (callsIn_wide.2 (names_calls a0 _)).mono ?_; rintro e w1 ⟨rfl, rfl⟩))
      have bR := Boxed.new w 9 (.string ByteArray.empty)
      have bQ := Boxed.new (w.alloc (.cells #[.string ByteArray.empty] 9)) 4 (.bool false)
      have bN := Boxed.new ((w.alloc (.cells #[.string ByteArray.empty] 9)).alloc (.cells #[.bool false] 4)) 9 (.string a0)
      rw [World.size_alloc] at bQ
      rw [World.size_alloc, World.size_alloc] at bN
      have hB0 : Below w.heap.size w (((w.alloc (.cells #[.string ByteArray.empty] 9)).alloc (.cells #[.bool false] 4)).alloc (.cells #[.string a0] 9)) := (((Below.refl _ w).alloc (Nat.le_refl _) _).alloc (by simp) _).alloc (by simp; omega) _
      have hfs : str_Split.f a0 = some (splitL a0.data.toList) := by unfold str_Split.f; rw [if_pos hs]
      have hll := splitL_length _ a0.data.toList (Nat.le_refl _)
      have hsum := Nat.le_trans (joinL_length (splitL a0.data.toList)) (splitL_sum _ a0.data.toList (Nat.le_refl _))
      rw [← Lib.size_eq] at hll hsum
      have HR := Aside0.mk h2
      clear h2
      refine range_box (by omega) (gf := 34) (b := w.heap.size + 2) (by simp) rfl (enters_of Tryd.func34 (by kernel_rfl) rfl) (names_box _ _ (by omega) a0 _ (by omega) bN)
        (CleanI w) (CleanX w) (by simpa using cleanI_lasts w) (fun c => by simpa using cleanX_lasts w c)
        ⟨⟨(bR.alloc _).alloc _, bQ.alloc _⟩, ⟨hB0, by simp⟩, rfl⟩
        (fun x => { tmps := #[.string a0, undef, .pointer (some ⟨w.heap.size, 0, none⟩), .pointer (some ⟨w.heap.size + 1, 0, none⟩), .string x, .string a0, .bool false, .string a0, .func (.func 34) #[] #[.pointer (some ⟨w.heap.size + 2, 0, none⟩)], .string x, undef, undef, undef, undef, undef], defers := [] }) ?assign ?body ?done ?stop
      case assign =>
        intro l x W K hK
        gi_wp2
        exact hK
      case body =>
        rintro l pre x W ⟨⟨h1, h2⟩, ⟨hB, hz⟩, hup⟩ hsp
        have hc1 := h1.cell
        have hf1 := h1.frozen
        have hc2 := h2.cell
        have hf2 := h2.frozen
        cases hq : (x.toList == [46, 46]) with
        | true =>
          gi_wp2
          have g1 : Boxed (W.setCell ⟨w.heap.size, 0, none⟩ (.string ByteArray.empty)) w.heap.size 9 (.string ByteArray.empty) := h1.set _
          have g2 : Boxed (W.setCell ⟨w.heap.size, 0, none⟩ (.string ByteArray.empty)) (w.heap.size + 1) 4 (.bool false) := (Below.heap_setCell _ _ _ _ (by simp)).trans h2
          refine ⟨(KeepsOthers.setCell _ _ _).trans (KeepsOthers.setCell _ _ _), rfl, ⟨(Below.heap_setCell _ _ _ _ (by simp)).trans g1, g2.set _⟩, ⟨(hB.setCell (p := ⟨w.heap.size, 0, none⟩) (Nat.le_refl _) _).setCell (p := ⟨w.heap.size + 1, 0, none⟩) (by simp) _, ?_⟩, by rw [upB_append, hup]; simp [upB, hq]⟩
          have z1 := (grownBy_setCell' W w.heap.size (.string ByteArray.empty)).size
          have z2 := (grownBy_setCell' (W.setCell ⟨w.heap.size, 0, none⟩ (.string ByteArray.empty)) (w.heap.size + 1) (.bool false)).size
          exact Nat.le_trans hz (Nat.le_trans z1 z2)
        | false =>
          gi_wp2
          exact ⟨KeepsOthers.refl _, rfl, ⟨h1, h2⟩, ⟨hB, hz⟩, by rw [upB_append, hup]; simp [upB, hq]⟩
      case done =>
        rintro D ys W hD rfl ⟨⟨h1, h2⟩, ⟨hB, hz⟩, hup⟩ hK
        have hr := HR.out
        rw [if_neg (by rw [hup]; simp)] at hr
        obtain ⟨rfl, rfl⟩ := Prod.mk.inj hr
        clear hr HR
        have hDl : D < W.heap.size := (Array.getElem?_eq_some_iff.1 hK).1
        have hDn : w.heap.size + 3 ≤ D := by simpa using hD
        gi_wp2_with (refine ⟨trivial, ?_⟩; first | (gi_at_call 11; refine (callsIn_wide.2 (str_Split.calls a0 _ _ hfs)).mono ?_; rintro e w2 ⟨v, rfl, hR2, hb2⟩; have HR2 := Aside0.mk hR2; clear hR2) | (gi_at_call 29; refine (callsIn_wide.2 (join_R _ _ _ HR2.out (by omega) (by omega))).mono ?_; rintro e w3 ⟨rfl, hb3⟩; have hb4 := hb2.trans (hb3.mono hb2.size); have g1 : Boxed w3 w.heap.size 9 (.string ByteArray.empty) := (hb4.block _ (by omega)).trans h1; have g2 : Boxed w3 (w.heap.size + 1) 4 (.bool false) := (hb4.block _ (by omega)).trans h2; have hc1 := g1.cell; have hf1 := g1.frozen; have hc2 := g2.cell; have hf2 := g2.frozen))
        have k1 : Boxed (w3.setCell ⟨w.heap.size, 0, none⟩ (.string (txt (joinL (splitL a0.data.toList))))) w.heap.size 9 (.string (txt (joinL (splitL a0.data.toList)))) := g1.set _
        have k2 : Boxed (w3.setCell ⟨w.heap.size, 0, none⟩ (.string (txt (joinL (splitL a0.data.toList))))) (w.heap.size + 1) 4 (.bool false) := (Below.heap_setCell _ _ _ _ (by simp)).trans g2
        have m1 : Boxed ((w3.setCell ⟨w.heap.size, 0, none⟩ (.string (txt (joinL (splitL a0.data.toList))))).setCell ⟨w.heap.size + 1, 0, none⟩ (.bool true)) w.heap.size 9 (.string (txt (joinL (splitL a0.data.toList)))) := (Below.heap_setCell _ _ _ _ (by simp)).trans k1
        have m2 : Boxed ((w3.setCell ⟨w.heap.size, 0, none⟩ (.string (txt (joinL (splitL a0.data.toList))))).setCell ⟨w.heap.size + 1, 0, none⟩ (.bool true)) (w.heap.size + 1) 4 (.bool true) := k2.set _
        have hK3 : ((w3.setCell ⟨w.heap.size, 0, none⟩ (.string (txt (joinL (splitL a0.data.toList))))).setCell ⟨w.heap.size + 1, 0, none⟩ (.bool true)).heap[D]? = some (.deferred (some [])) := (Below.heap_setCell _ _ _ _ (by simp; omega)).trans ((Below.heap_setCell _ _ _ _ (by simp; omega)).trans ((hb4.block D hDl).trans hK))
        have hBB : Below w.heap.size w ((w3.setCell ⟨w.heap.size, 0, none⟩ (.string (txt (joinL (splitL a0.data.toList))))).setCell ⟨w.heap.size + 1, 0, none⟩ (.bool true)) := ((hB.trans (hb4.mono hB.size)).setCell (p := ⟨w.heap.size, 0, none⟩) (Nat.le_refl _) _).setCell (p := ⟨w.heap.size + 1, 0, none⟩) (by simp) _
        refine ⟨by simp, .inl ⟨_, _, rfl, run_takeDeferred hK3, ?_⟩⟩
        have n1 : Boxed _ w.heap.size 9 (.string (txt (joinL (splitL a0.data.toList)))) := (World.putObj_heap_other (o := .deferred none) (r := D) (by omega)).trans m1
        have n2 : Boxed _ (w.heap.size + 1) 4 (.bool true) := (World.putObj_heap_other (o := .deferred none) (r := D) (by omega)).trans m2
        have hc5 := n1.cell
        have hc6 := n2.cell
        refine ⟨.tuple #[.string (txt (joinL (splitL a0.data.toList))), .bool true], ?_, rfl, hBB.grown (grownBy_putObj' _ D _) hBB.size (fun k e => by cases e; omega)⟩
        simp [results, Tryd.f14, go_sem, hc5, hc6]
      case stop =>
        rintro D c pre W hD ⟨t, ht⟩ ⟨rfl, ⟨h1, h2⟩, ⟨hB, hz⟩, hup⟩ hK
        have hr := HR.out
        rw [if_pos (by rw [← ht, upB_append, hup]; rfl)] at hr
        obtain ⟨rfl, rfl⟩ := Prod.mk.inj hr
        clear hr HR
        have hDn : w.heap.size + 3 ≤ D := by simpa using hD
        gi_wp2
        refine ⟨by simp, .inl ⟨_, _, rfl, run_takeDeferred hK, ?_⟩⟩
        have n1 : Boxed _ w.heap.size 9 (.string ByteArray.empty) := (World.putObj_heap_other (o := .deferred none) (r := D) (by omega)).trans h1
        have n2 : Boxed _ (w.heap.size + 1) 4 (.bool false) := (World.putObj_heap_other (o := .deferred none) (r := D) (by omega)).trans h2
        have hc5 := n1.cell
        have hc6 := n2.cell
        refine ⟨.tuple #[.string ByteArray.empty, .bool false], ?_, rfl, hB.grown (grownBy_putObj' _ D _) hB.size (fun k e => by cases e; omega)⟩
        simp [results, Tryd.f14, go_sem, hc5, hc6]
  · rw [if_neg hs] at h
    cases h
end Go.Proofs.YtllcgkjomeegdaaDoor.P
