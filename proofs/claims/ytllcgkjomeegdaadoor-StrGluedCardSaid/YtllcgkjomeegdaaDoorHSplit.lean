/- str.names, Split and Clean: what they hand back, for every text of at most 2^32 bytes. No conditions. -/
import Derived.Test.YtllcgkjomeegdaaDoorHCut
import Derived.Test.YtllcgkjomeegdaaDoorHRange
import Derived.RangeFuncBox
namespace Go.Proofs.YtllcgkjomeegdaaDoor.P
open Go.RowKit Go.Shelf Go.Lib Go.Proofs.YtllcgkjomeegdaaDoorW.PrintWords Go.Proofs.YtllcgkjomeegdaaDoorW.PrintLast Go.Proofs.YtllcgkjomeegdaaDoorW.PrintMore
set_option linter.unusedVariables false
set_option linter.unusedSimpArgs false
attribute [local go_sem] Oper.semAt_some

/-- A piece of a path that is a name. -/
def isName (x : List UInt8) : Bool := !(x == []) && !(x == [46])
/-- A path's names, by their bytes. -/
def namesL : Nat → List UInt8 → List (List UInt8)
  | 0, _ => []
  | f + 1, s => if s = [] then [] else (if isName (Lib.cut s [47]).1 = true then [(Lib.cut s [47]).1] else []) ++ namesL f (Lib.cut s [47]).2.1
def txt (l : List UInt8) : ByteArray := ⟨l.toArray⟩
def splitL (l : List UInt8) : List ByteArray := (namesL l.length l).map txt

theorem cut_less (s : List UInt8) (h : s ≠ []) : (Lib.cut s [47]).2.1.length < s.length := by
  have h0 : 0 < s.length := List.length_pos_iff.2 h
  unfold Lib.cut
  split
  · simp only [List.length_drop, List.length_cons, List.length_nil]
    omega
  · exact h0
theorem namesL_fuel : ∀ (f g : Nat) (s : List UInt8), s.length ≤ f → s.length ≤ g → namesL f s = namesL g s
  | 0, 0, _, _, _ => rfl
  | 0, g + 1, s, h, _ => by
    obtain rfl : s = [] := List.eq_nil_of_length_eq_zero (by omega)
    simp [namesL]
  | f + 1, 0, s, _, h => by
    obtain rfl : s = [] := List.eq_nil_of_length_eq_zero (by omega)
    simp [namesL]
  | f + 1, g + 1, s, h1, h2 => by
    simp only [namesL]
    by_cases h : s = []
    · rw [if_pos h, if_pos h]
    · rw [if_neg h, if_neg h]
      have := cut_less s h
      rw [namesL_fuel f g _ (by omega) (by omega)]
theorem splitL_nil : splitL [] = [] := rfl
theorem splitL_step (s : List UInt8) (h : s ≠ []) : splitL s = (if isName (Lib.cut s [47]).1 = true then [txt (Lib.cut s [47]).1] else []) ++ splitL (Lib.cut s [47]).2.1 := by
  have h0 : 0 < s.length := List.length_pos_iff.2 h
  obtain ⟨f, hf⟩ : ∃ f, s.length = f + 1 := ⟨s.length - 1, by omega⟩
  have := cut_less s h
  unfold splitL
  rw [hf]
  simp only [namesL]
  rw [if_neg h, namesL_fuel f _ _ (by omega) (Nat.le_refl _), List.map_append]
  split <;> rfl
theorem splitL_length : ∀ (n : Nat) (s : List UInt8), s.length ≤ n → (splitL s).length ≤ s.length
  | 0, s, h => by
    obtain rfl : s = [] := List.eq_nil_of_length_eq_zero (by omega)
    simp [splitL, namesL]
  | n + 1, s, h => by
    by_cases h0 : s = []
    · subst h0; simp [splitL, namesL]
    · have h1 := cut_less s h0
      have h2 := splitL_length n (Lib.cut s [47]).2.1 (by omega)
      rw [splitL_step s h0, List.length_append]
      split <;> simp <;> omega

set_option maxRecDepth 100000 in
theorem names_calls (s : ByteArray) (w : World) :
    Calls Tryd.prog 25 #[.string s] w fun e w' => e = .returned (.func (.func 34) #[] #[.pointer (some ⟨w.heap.size, 0, none⟩)]) ∧ w' = w.alloc (.cells #[.string s] 9) := by
  go_enter Tryd.func25, Tryd.ntmps25
  go_wp2
  go_ret
  exact ⟨rfl, rfl⟩

/-- How long the text in a box is. -/
def boxLen (b : Nat) (W : World) : Nat := match W.heap[b]? with
  | some (.cells #[.string t] _ _) => t.size
  | _ => 0
theorem boxLen_eq {b : Nat} {W : World} {t : ByteArray} {ty : TypeId} (h : Boxed W b ty (.string t)) : boxLen b W = t.size := by
  unfold boxLen
  rw [show W.heap[b]? = _ from h]
  rfl

set_option maxRecDepth 100000 in
set_option maxHeartbeats 4000000 in
theorem names_box (n b : Nat) (hn : 1 ≤ n) (s : ByteArray) (w : World) (hs : s.size ≤ 4294967296) (hb : Boxed w b 9 (.string s)) :
    SeqBox n Tryd.prog 34 b (fun x : ByteArray => #[.string x]) (fun xs => xs = splitL s.data.toList) (fun pre => pre <+: splitL s.data.toList) w := by
  intro l J Jx W hsame hgrow hstore hY h0
  have hbW : Boxed W b 9 (.string s) := hsame.trans hb
  refine callsIn_of_wp Tryd.func34 rfl trivial ?_ rfl
  simp only [Tryd.ntmps34, List.size_toArray, List.length_cons, List.length_nil, Nat.reduceAdd, Nat.reduceSub, Array.replicate_succ, Array.replicate_zero, List.push_toArray, List.append_toArray, List.nil_append, List.cons_append]
  gi_wp2
  gi_loopw [] (fun wr => ∃ (pre : List ByteArray) (t : ByteArray), Boxed wr b 9 (.string t) ∧ splitL s.data.toList = pre ++ splitL t.data.toList ∧ J pre wr ∧ t.size ≤ s.size) (fun wr => boxLen b wr)
  case atStart => exact ⟨[], s, hbW, rfl, h0, Nat.le_refl _⟩
  case round =>
    obtain ⟨pre, t, hbx, hsp, hJ, hts⟩ := hrel
    have hc := hbx.cell
    have hf := hbx.frozen
    have HS := Aside0.mk hsp
    clear hsp
    cases hne : t.toList.isEmpty with
    | true =>
      gi_wp2
      go_end0
      have ht0 : t.data.toList = [] := by rw [← Lib.toList_data]; exact List.isEmpty_iff.1 hne
      exact ⟨⟨_, rfl⟩, .inl ⟨pre, by rw [HS.out, ht0, splitL_nil, List.append_nil], hJ⟩⟩
    | false =>
      have hne2 : t.data.toList ≠ [] := by
        intro e
        rw [Lib.toList_data, e] at hne
        cases hne
      have hless := cut_less t.data.toList hne2
      have hstep := splitL_step t.data.toList hne2
      have hcut := fun W => cut_one t 47 W (by omega)
      obtain ⟨nm, hnm⟩ : ∃ nm : ByteArray, nm = ⟨(Lib.cut t.data.toList [47]).1.toArray⟩ := ⟨_, rfl⟩
      obtain ⟨rs, hrs⟩ : ∃ rs : ByteArray, rs = ⟨(Lib.cut t.data.toList [47]).2.1.toArray⟩ := ⟨_, rfl⟩
      obtain ⟨fo, hfo⟩ : ∃ fo, fo = (Lib.cut t.data.toList [47]).2.2 := ⟨_, rfl⟩
      have enm : (Lib.cut t.data.toList [47]).1 = nm.data.toList := by rw [hnm]
      have ers : (Lib.cut t.data.toList [47]).2.1 = rs.data.toList := by rw [hrs]
      rw [← hnm, ← hrs, ← hfo] at hcut
      rw [enm, ers] at hstep
      rw [ers] at hless
      have hrl : rs.size < t.size := by rw [Lib.size_eq, Lib.size_eq t]; exact hless
      have etx : txt nm.data.toList = nm := by cases nm; rfl
      rw [etx] at hstep
      have HC := Aside0.mk hcut
      have HP := Aside0.mk hstep
      clear hcut hnm hrs hfo enm ers hstep hless etx
      have htl := Lib.toList_data nm
      have hk : isName nm.data.toList = (!(nm.toList.isEmpty) && !(nm.toList == [46])) := by
        rw [htl]; unfold isName
        cases nm.data.toList <;> rfl
      have HK := Aside0.mk hk
      clear hk htl
      -- what the loop owes at its end
      have HN := Aside0.mk (fun (pre2 : List ByteArray) (W2 : World) (h : splitL s.data.toList = pre2 ++ splitL rs.data.toList) (hj : J pre2 W2) (hx : Boxed W2 b 9 (.string rs)) => (⟨pre2, rs, hx, h, hj, by omega⟩ : ∃ (pre : List ByteArray) (t : ByteArray), Boxed W2 b 9 (.string t) ∧ splitL s.data.toList = pre ++ splitL t.data.toList ∧ J pre W2 ∧ t.size ≤ s.size))
      have hbq : ∀ q, Boxed ((wr.drewN q).setCell ⟨b, 0, none⟩ (.string rs)) b 9 (.string rs) := fun q => Boxed.set (W := wr.drewN q) _ hbx
      have HQ := Aside0.mk hbq
      clear hbq
      have hJq : ∀ q, J pre ((wr.drewN q).setCell ⟨b, 0, none⟩ (.string rs)) := fun q => hstore _ _ _ (hgrow _ _ _ hJ ⟨rfl, rfl, rfl, Nat.le_refl _, fun _ _ _ => rfl⟩)
      have HJ := Aside0.mk hJq
      clear hJq
      cases hn1 : nm.toList.isEmpty with
      | true =>
        rw [hn1] at HK
        gi_wp2_with (refine ⟨trivial, ?_⟩; gi_at_call 35; refine (callsIn_wide.2 (HC.out _)).mono ?_; rintro e w1 ⟨rfl, q, rfl⟩; have hc1 : (wr.drewN q).cell? ⟨b, 0, none⟩ = some (.string t) := hc; have hf1 : (wr.drewN q).frozen? ⟨b, 0, none⟩ = false := hf)
        refine ⟨fun _ h => (by cases h), ?_⟩
        gi_wp2
        go_roundw
        case rel => exact HN.out pre _ (by rw [HS.out, HP.out, HK.out]; rfl) (HJ.out q) (HQ.out q)
        case measure => rw [boxLen_eq hbx, boxLen_eq (HQ.out q)]; exact hrl
      | false =>
        rw [hn1] at HK
        cases hn2 : (nm.toList == [46]) with
        | true =>
          rw [hn2] at HK
          gi_wp2_with (refine ⟨trivial, ?_⟩; gi_at_call 35; refine (callsIn_wide.2 (HC.out _)).mono ?_; rintro e w1 ⟨rfl, q, rfl⟩; have hc1 : (wr.drewN q).cell? ⟨b, 0, none⟩ = some (.string t) := hc; have hf1 : (wr.drewN q).frozen? ⟨b, 0, none⟩ = false := hf)
          refine ⟨fun _ h => (by cases h), ?_⟩
          gi_wp2
          go_roundw
          case rel => exact HN.out pre _ (by rw [HS.out, HP.out, HK.out]; rfl) (HJ.out q) (HQ.out q)
          case measure => rw [boxLen_eq hbx, boxLen_eq (HQ.out q)]; exact hrl
        | false =>
          rw [hn2] at HK
          gi_wp2_with (refine ⟨trivial, ?_⟩; gi_at_call 35; refine (callsIn_wide.2 (HC.out _)).mono ?_; rintro e w1 ⟨rfl, q, rfl⟩; have hc1 : (wr.drewN q).cell? ⟨b, 0, none⟩ = some (.string t) := hc; have hf1 : (wr.drewN q).frozen? ⟨b, 0, none⟩ = false := hf; obtain ⟨fn_, tmps_, assign_, body_, hy, hR⟩ := hY pre nm _ (HJ.out q) ⟨splitL rs.data.toList, by rw [HS.out, HP.out, HK.out, List.append_assoc]; rfl⟩)
          refine hR.mono ?_
          rintro e W3 (⟨rfl, hJ3, hk3⟩ | ⟨rfl, hJx3⟩)
          · have hx3 : Boxed W3 b 9 (.string rs) := hk3.trans (HQ.out q)
            gi_wp2
            go_roundw
            case rel => exact HN.out (pre ++ [nm]) _ (by rw [HS.out, HP.out, HK.out, List.append_assoc]; rfl) hJ3 hx3
            case measure => rw [boxLen_eq hbx, boxLen_eq hx3]; exact hrl
          · gi_wp2
            refine bodyPost_ret (results_none rfl _ _ _) rfl ?_
            exact ⟨⟨_, rfl⟩, .inr ⟨pre ++ [nm], ⟨splitL rs.data.toList, by rw [HS.out, HP.out, HK.out, List.append_assoc]; rfl⟩, hJx3⟩⟩

/-! ### Split -/
def str_Split.f (a0 : ByteArray) : Option (List ByteArray) := if a0.size ≤ 4294967296 then some (splitL a0.data.toList) else none
theorem strInfo : (Tryd.prog.info? 9).map (fun i => (i.zero, i.size, i.bytes)) = some (some (.string ByteArray.empty), 1, 16) := by kernel_rfl

/-- What the loop of Split keeps: the names that have come, in a row of its own. -/
def SplitI (w : World) (pre : List ByteArray) (W : World) : Prop :=
  (∃ v, Boxed W w.heap.size 24 v ∧ W.ownsRow (w.heap.size + 2) 9 1 v pre.length (pre.map Value.string)) ∧ Below w.heap.size w W ∧ w.heap.size + 2 ≤ W.heap.size
theorem splitI_lasts (w : World) : Lasts (w.heap.size + 1) (w.heap.size + 2) (SplitI w) where
  grown := fun s W W' ⟨⟨v, hv, hr⟩, hb, hz⟩ hg => ⟨⟨v, hv.kept hg (by simp), hr.kept hg (by rcases hr.2 with ⟨e, _⟩ | ⟨g, cap, cur, e, _⟩ <;> subst e; exact .inl rfl; exact .inr (by simp [Value.ownBlock]))⟩, hb.grown hg (Nat.le_trans (by omega) hz) (fun k e => by cases e), Nat.le_trans hz hg.size⟩
  store := fun s W v ⟨⟨u, hv, hr⟩, hb, hz⟩ => by
    have hne : u.ownBlock ≠ some (w.heap.size + 1) := fun e => by have := (hr.lt _ e).1; omega
    refine ⟨⟨u, (Below.heap_setCell _ _ _ _ (by simp)).trans hv, hr.kept (grownBy_setCell' W (w.heap.size + 1) v) (.inr hne)⟩, hb.setCell (p := ⟨w.heap.size + 1, 0, none⟩) (by simp) v, ?_⟩
    have := (grownBy_setCell' W (w.heap.size + 1) v).size
    omega
  turned := fun s W l o o' ⟨⟨u, hv, hr⟩, hb, hz⟩ hl ho hc => by
    refine ⟨⟨u, (World.putObj_heap_other (by omega)).trans hv, ownsRow_putObj hr _ ho hc⟩, hb.grown (grownBy_putObj' W l o') (by omega) (fun k e => by cases e; omega), ?_⟩
    have := (grownBy_putObj' W l o').size
    omega
set_option maxRecDepth 100000 in
set_option maxHeartbeats 4000000 in
theorem str_Split.calls (a0 : ByteArray) (r : List ByteArray) (w : World) (h : str_Split.f a0 = some r) :
    Calls Tryd.prog 11 #[.string a0] w fun e w' => ∃ v0_ : Value, e = .returned v0_ ∧ Kd.R Kd.string 9 w' w.heap.size (fun _ => True) v0_ r ∧ Below w.heap.size w w' := by
  unfold str_Split.f at h
  by_cases hs : a0.size ≤ 4294967296
  · rw [if_pos hs] at h
    obtain rfl := Option.some.inj h
    clear h
    obtain ⟨i0, hi, hz0, hz1, hz2⟩ := info_parts strInfo
    have hll := splitL_length _ a0.data.toList (Nat.le_refl _)
    rw [← Lib.size_eq] at hll
    refine (callsIn_wide (n := 3)).1 ?_
    refine callsIn_of_wp_marks Tryd.func11 rfl trivial ?_ rfl
    simp only [Tryd.ntmps11, List.size_toArray, List.length_cons, List.length_nil, Nat.reduceAdd, Nat.reduceSub, Array.replicate_succ, Array.replicate_zero, List.push_toArray, List.append_toArray, List.nil_append, List.cons_append]
    gi_wp2_with (refine ⟨trivial, ?_⟩; gi_at_call 25; refine (callsIn_wide.2 (names_calls a0 _)).mono ?_; rintro e w1 ⟨rfl, rfl⟩)
    have bO := Boxed.new w 24 (.slice none 0 0)
    have bN := Boxed.new (w.alloc (.cells #[.slice none 0 0] 24)) 9 (.string a0)
    rw [World.size_alloc] at bN
    have hB0 : Below w.heap.size w ((w.alloc (.cells #[.slice none 0 0] 24)).alloc (.cells #[.string a0] 9)) := ((Below.refl _ w).alloc (Nat.le_refl _) _).alloc (by simp) _
    refine range_box (by omega) (gf := 34) (b := w.heap.size + 1) (by simp) rfl (enters_of Tryd.func34 (by kernel_rfl) rfl) (names_box _ _ (by omega) a0 _ hs bN)
      (SplitI w) (fun _ _ _ => False) (by simpa using splitI_lasts w) (fun _ => ⟨fun _ _ _ h _ => h, fun _ _ _ h => h, fun _ _ _ _ _ h _ _ _ => h⟩)
      ⟨⟨_, bO.alloc _, World.ownsRow_nil _ _ _ _⟩, hB0, by simp⟩
      (fun x => { tmps := #[.string a0, undef, .slice none 0 0, .pointer (some ⟨w.heap.size, 0, none⟩), .string x, .string a0, .func (.func 34) #[] #[.pointer (some ⟨w.heap.size + 1, 0, none⟩)], .string x, undef, undef, undef, undef, undef], defers := [] }) ?assign ?body ?done ?stop
    case assign =>
      intro l x W K hK
      gi_wp2
      exact hK
    case body =>
      rintro l pre x W ⟨⟨v, hv, hrow⟩, hB, hz⟩ hsp
      have hc := hv.cell
      have hpl : pre.length + 1 ≤ a0.size := by
        have := List.IsPrefix.length_le hsp
        rw [List.length_append] at this
        simp only [List.length_cons, List.length_nil] at this
        omega
      gi_wp2_with (gi_at_builtin; refine wpListIn_append_own _ rfl _ _ 24 rfl (w.heap.size + 2) 9 i0 (.string ByteArray.empty) 1 16 Tryd.underlying24 hi hz0 hz1 hz2 rfl (by decide) _ _ _ rfl (hrow.alloc _) ⟨W.heap.size, 0, none⟩ 1 1 [.string x] rfl rfl (cell_one_new _ _ _) (by simp [Value.oneCell']) (by unfold maxLen; omega) (by omega) (by simp; omega) ?_; intro v' w1 hown' hgrow _; obtain ⟨g', cap', rfl⟩ := ownsRow_succ hown'; obtain ⟨hv1, hv2, _, hk2, hb2⟩ := hv.appended (by decide) (own_weaken hrow (Nat.le_add_right _ 2)) hB.size (Nat.le_refl _) (own_weaken hown' (Nat.le_add_right _ 2)) hgrow; have hr3 := hown'.kept (grownBy_setCell' w1 w.heap.size (.slice (some ⟨g', 0, none⟩) (pre.length + 1) cap')) (.inr (hv1.not_row (by decide) hown').symm); have hc1 := hv1.cell; have hf1 := hv1.frozen)
      refine ⟨hk2, ?_, ⟨_, hv2, by rw [List.length_append, List.map_append]; exact hr3⟩, hB.trans hb2, ?_⟩
      · rw [Below.heap_setCell _ _ _ _ (by simp), hgrow.block (w.heap.size + 1) (by simp; omega) (fun e => by have := (hrow.lt _ e.symm).1; omega)]
        exact Below.heap_alloc _ _ _ (by omega)
      · have h1 := hgrow.size
        have h2 := (grownBy_setCell' w1 w.heap.size (.slice (some ⟨g', 0, none⟩) (pre.length + 1) cap')).size
        simp only [World.size_alloc] at h1
        omega
    case done =>
      rintro D ys W hD rfl ⟨⟨v, hv, hrow⟩, hB, hz⟩ hK
      have hc := hv.cell
      gi_wp2
      refine ⟨by simp, .inl ⟨_, _, rfl, run_takeDeferred hK, ?_⟩⟩
      refine ⟨_, results_tmp rfl _ _ _, v, rfl, Kd.R_of_own (enc := Value.string) (h1 := fun _ => rfl) (by simpa [encs] using own_weaken (ownsRow_putObj hrow _ hK rfl) (Nat.le_add_right _ 2)) (fun _ _ => trivial), ?_⟩
      exact hB.trans (belowK_b (w := w) (Nat.le_refl _) W D _ _ (by simp at hD; omega) hK rfl rfl)
    case stop =>
      rintro D c pre W _ _ h _
      exact h.elim
  · rw [if_neg hs] at h
    cases h
end Go.Proofs.YtllcgkjomeegdaaDoor.P
