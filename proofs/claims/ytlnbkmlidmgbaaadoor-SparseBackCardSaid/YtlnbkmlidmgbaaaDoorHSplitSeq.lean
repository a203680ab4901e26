/- strings.SplitSeq at a comma: the pieces that it hands over, for every text. No conditions. -/
import Derived.Test.YtlnbkmlidmgbaaaDoorHStd9
import Derived.Test.YtlnbkmlidmgbaaaDoorHRange3
import Derived.RangeFuncBox
import Derived.BigCall
import Derived.Lib.IndexLaws
namespace Go.Proofs.YtlnbkmlidmgbaaaDoor.P
open Go.RowKit Go.Shelf Go.Lib Go.Proofs.YtlnbkmlidmgbaaaDoorW.PrintWords Go.Proofs.YtlnbkmlidmgbaaaDoorW.PrintLast Go.Proofs.YtlnbkmlidmgbaaaDoorW.PrintMore
set_option linter.unusedVariables false
set_option linter.unusedSimpArgs false
attribute [local go_sem] Oper.semAt_some

/-- A text's pieces, a comma between. -/
def splitC : List UInt8 → List (List UInt8)
  | [] => [[]]
  | c :: l => if c = 44 then [] :: splitC l else ((c :: (splitC l).headD []) :: (splitC l).tail)
theorem splitC_ne : ∀ l, splitC l ≠ []
  | [] => by simp [splitC]
  | c :: l => by unfold splitC; split <;> simp
theorem splitC_none : ∀ l : List UInt8, Lib.indexByte l 44 = -1 → splitC l = [l]
  | [], _ => rfl
  | c :: l, h => by
    unfold Lib.indexByte at h
    by_cases hc : c = 44
    · rw [if_pos (by simp [hc])] at h
      cases h
    · rw [if_neg (by simp [hc])] at h
      by_cases h1 : Lib.indexByte l 44 = -1
      · unfold splitC
        rw [if_neg hc, splitC_none l h1]
        rfl
      · rw [if_neg (by simp [h1])] at h
        have := Lib.indexByte_ge l 44
        omega
theorem splitC_some : ∀ (l : List UInt8) (i : Nat), Lib.indexByte l 44 = i → i < l.length ∧ splitC l = l.take i :: splitC (l.drop (i + 1))
  | [], i, h => by
    have : (-1 : Int) = i := h
    omega
  | c :: l, i, h => by
    unfold Lib.indexByte at h
    by_cases hc : c = 44
    · rw [if_pos (by simp [hc])] at h
      obtain rfl : i = 0 := by omega
      refine ⟨by simp, ?_⟩
      conv => lhs; unfold splitC
      rw [if_pos hc]
      rfl
    · rw [if_neg (by simp [hc])] at h
      by_cases h1 : Lib.indexByte l 44 = -1
      · rw [if_pos (by simp [h1])] at h
        omega
      · rw [if_neg (by simp [h1])] at h
        have := Lib.indexByte_ge l 44
        obtain ⟨j, rfl⟩ : ∃ j, i = j + 1 := ⟨i - 1, by omega⟩
        obtain ⟨h2, h3⟩ := splitC_some l j (by omega)
        refine ⟨by simp; omega, ?_⟩
        conv => lhs; unfold splitC
        rw [if_neg hc, h3]
        rfl
def fieldsB (s : ByteArray) : List ByteArray := (splitC s.data.toList).map tx
theorem tx_toList (s : ByteArray) : tx s.data.toList = s := by cases s; rfl
theorem fieldsB_none (s : ByteArray) (h : Lib.indexByte s.data.toList 44 = -1) : fieldsB s = [s] := by
  unfold fieldsB
  rw [splitC_none _ h]
  simp [tx_toList]
theorem extract_tx (s : ByteArray) (a b : Nat) (hb : b ≤ s.size) : s.extract a b = tx ((s.data.toList.take b).drop a) := by
  apply ByteArray.ext
  apply Array.toList_inj.1
  simp [tx, List.drop_take]
theorem fieldsB_some (s : ByteArray) (i : Nat) (h : Lib.indexByte s.data.toList 44 = i) : i < s.size ∧ fieldsB s = s.extract 0 i :: fieldsB (s.extract (i + 1) s.size) := by
  obtain ⟨h1, h2⟩ := splitC_some _ i h
  have hz : i < s.size := by rw [Lib.size_eq]; exact h1
  refine ⟨hz, ?_⟩
  rw [extract_tx _ _ _ (Nat.le_of_lt hz), extract_tx _ _ _ (Nat.le_refl _)]
  conv => lhs; unfold fieldsB
  rw [h2, List.map_cons]
  congr 1
  unfold fieldsB
  congr 2
  have : s.data.toList.take s.size = s.data.toList := List.take_of_length_le (by rw [Lib.size_eq]; exact Nat.le_refl _)
  rw [this]
  simp [tx]

set_option maxRecDepth 100000 in
theorem index_one (s : ByteArray) (c : UInt8) (w : World) :
    Calls Tryd.prog 59 #[.string s, .string ⟨#[c]⟩] w fun e w' => e = .returned (.int .i64 (Lib.indexByte s.data.toList c)) ∧ w' = w := by
  go_enter Tryd.func59, Tryd.ntmps59
  go_wp2_with (go_at_call 70; refine (Tryd.stringslite_Index_one s c _).mono ?_; rintro e w' ⟨rfl, rfl⟩)
  go_ret
  exact ⟨rfl, rfl⟩
set_option maxRecDepth 100000 in
theorem splitSeq0_calls (s sep : ByteArray) (w : World) :
    Calls Tryd.prog 44 #[.string s, .string sep, .int .i64 0] w fun e w' => e = .returned (.func (.func 57) #[] #[.pointer (some ⟨w.heap.size + 1, 0, none⟩), .pointer (some ⟨w.heap.size, 0, none⟩), .pointer (some ⟨w.heap.size + 2, 0, none⟩)]) ∧ w' = ((w.alloc (.cells #[.string s] 9)).alloc (.cells #[.string sep] 9)).alloc (.cells #[.int .i64 0] 3) := by
  go_enter Tryd.func44, Tryd.ntmps44
  go_wp2
  go_ret
  exact ⟨by simp, rfl⟩
set_option maxRecDepth 100000 in
theorem splitSeq_calls (s sep : ByteArray) (w : World) :
    Calls Tryd.prog 28 #[.string s, .string sep] w fun e w' => e = .returned (.func (.func 57) #[] #[.pointer (some ⟨w.heap.size + 1, 0, none⟩), .pointer (some ⟨w.heap.size, 0, none⟩), .pointer (some ⟨w.heap.size + 2, 0, none⟩)]) ∧ w' = ((w.alloc (.cells #[.string s] 9)).alloc (.cells #[.string sep] 9)).alloc (.cells #[.int .i64 0] 3) := by
  go_enter Tryd.func28, Tryd.ntmps28
  go_wp2_with (go_at_call 44; refine (splitSeq0_calls s sep _).mono ?_; rintro e w' ⟨rfl, rfl⟩)
  go_ret
  exact ⟨rfl, rfl⟩

/-- How long the text in a box is. -/
def boxLen (b : Nat) (W : World) : Nat := match W.heap[b]? with
  | some (.cells #[.string t] _ _) => t.size
  | _ => 0
theorem boxLen_eq {b : Nat} {W : World} {t : ByteArray} {ty : TypeId} (h : Boxed W b ty (.string t)) : boxLen b W = t.size := by
  unfold boxLen
  rw [show W.heap[b]? = _ from h]
  rfl

set_option maxRecDepth 100000 in
set_option maxHeartbeats 4000000 in
theorem splitSeq_box (n b : Nat) (hn : 1 ≤ n) (s : ByteArray) (w : World) (hs : s.size ≤ 9223372036854775806) (hb : Boxed w b 9 (.string s)) (hp : Boxed w (b + 1) 9 (.string ⟨#[44]⟩)) (hz : Boxed w (b + 2) 3 (.int .i64 0)) :
    SeqBox3 n Tryd.prog 57 b (fun x : ByteArray => #[.string x]) (fun xs => xs = fieldsB s) (fun pre => pre <+: fieldsB s) w := by
  intro l J Jx W hsame hgrow hstore hY h0
  have hbW : Boxed W b 9 (.string s) := (hsame b (Nat.le_refl _) (by omega)).trans hb
  have hpW : Boxed W (b + 1) 9 (.string ⟨#[44]⟩) := (hsame (b + 1) (by omega) (by omega)).trans hp
  have hzW : Boxed W (b + 2) 3 (.int .i64 0) := (hsame (b + 2) (by omega) (by omega)).trans hz
  have hpc := hpW.cell
  have hpf := hpW.frozen
  refine callsIn_of_wp Tryd.func57 rfl trivial ?_ rfl
  simp only [Tryd.ntmps57, List.size_toArray, List.length_cons, List.length_nil, Nat.reduceAdd, Nat.reduceSub, Array.replicate_succ, Array.replicate_zero, List.push_toArray, List.append_toArray, List.nil_append, List.cons_append]
  gi_wp2
  gi_loopw [] (fun wr => ∃ (pre : List ByteArray) (t : ByteArray), Boxed wr b 9 (.string t) ∧ Boxed wr (b + 1) 9 (.string ⟨#[44]⟩) ∧ Boxed wr (b + 2) 3 (.int .i64 0) ∧ fieldsB s = pre ++ fieldsB t ∧ J pre wr ∧ t.size ≤ s.size) (fun wr => boxLen b wr)
  case atStart => exact ⟨[], s, hbW, hpW, hzW, rfl, h0, Nat.le_refl _⟩
  case round =>
    clear hpc hpf
    obtain ⟨pre, t, hbx, hpx, hzx, hsp, hJ, hts⟩ := hrel
    have hc := hbx.cell
    have hf := hbx.frozen
    have hpc := hpx.cell
    have hpf := hpx.frozen
    have hzc := hzx.cell
    have hzf := hzx.frozen
    have HS := Aside0.mk hsp
    clear hsp
    by_cases hix : Lib.indexByte t.data.toList 44 = -1
    · have hfl := fieldsB_none t hix
      have HF := Aside0.mk hfl
      clear hfl
      gi_wp2_with (refine ⟨trivial, ?_⟩; gi_at_call 59; refine (callsIn_wide.2 (index_one t 44 _)).mono ?_; rintro e w1 ⟨rfl, rfl⟩; rw [hix]; obtain ⟨fn_, tmps_, assign_, body_, hy, hR⟩ := hY pre t _ hJ ⟨[], by rw [HS.out, HF.out, List.append_nil]⟩)
      refine hR.mono ?_
      rintro e W3 (⟨rfl, hJ3, hk3⟩ | ⟨rfl, hJx3⟩)
      · gi_wp2
        go_end0
        exact ⟨⟨_, rfl⟩, .inl ⟨pre ++ [t], by rw [HS.out, HF.out], hJ3⟩⟩
      · gi_wp2
        go_end0
        exact ⟨⟨_, rfl⟩, .inr ⟨pre ++ [t], ⟨[], by rw [HS.out, HF.out, List.append_nil]⟩, hJx3⟩⟩
    · have hge := Lib.indexByte_ge t.data.toList 44
      obtain ⟨i, hi⟩ : ∃ i : Nat, Lib.indexByte t.data.toList 44 = i := ⟨(Lib.indexByte t.data.toList 44).toNat, by omega⟩
      obtain ⟨hil, hfl⟩ := fieldsB_some t i hi
      clear hix hge
      have hrl : (t.extract (i + 1) t.size).size < t.size := by rw [ByteArray.size_extract]; omega
      have HF := Aside0.mk hfl
      have HRL := Aside0.mk hrl
      clear hfl hrl
      have q0 : (0 : Int) ≤ (i : Int) := by omega
      have q1 : (i : Int) ≤ (t.size : Int) := by omega
      have q2 : (0 : Int) ≤ (i : Int) + 1 := by omega
      have q3 : (i : Int) + 1 ≤ (t.size : Int) := by omega
      have q4 : ¬ ((i : Int) < 0) := by omega
      gi_wp2_with (refine ⟨trivial, ?_⟩; gi_at_call 59; refine (callsIn_wide.2 (index_one t 44 _)).mono ?_; rintro e w1 ⟨rfl, rfl⟩; rw [hi]; obtain ⟨fn_, tmps_, assign_, body_, hy, hR⟩ := hY pre (t.extract 0 i) _ hJ ⟨fieldsB (t.extract (i + 1) t.size), by rw [HS.out, HF.out, List.append_assoc]; rfl⟩)
      refine hR.mono ?_
      rintro e W3 (⟨rfl, hJ3, hk3⟩ | ⟨rfl, hJx3⟩)
      · have hx3 : Boxed W3 b 9 (.string t) := (hk3 b (Nat.le_refl _) (by omega)).trans hbx
        have hp3 : Boxed W3 (b + 1) 9 (.string ⟨#[44]⟩) := (hk3 (b + 1) (by omega) (by omega)).trans hpx
        have hz3 : Boxed W3 (b + 2) 3 (.int .i64 0) := (hk3 (b + 2) (by omega) (by omega)).trans hzx
        have hc3 := hx3.cell
        have hf3 := hx3.frozen
        have hpc3 := hp3.cell
        have hpf3 := hp3.frozen
        have hx4 : Boxed (W3.setCell ⟨b, 0, none⟩ (.string (t.extract (i + 1) t.size))) b 9 (.string (t.extract (i + 1) t.size)) := Boxed.set (W := W3) _ hx3
        gi_wp2
        go_roundw
        case rel =>
          exact ⟨pre ++ [t.extract 0 i], t.extract (i + 1) t.size, hx4, (Below.heap_setCell _ _ _ _ (by simp)).trans hp3, (Below.heap_setCell _ _ _ _ (by simp)).trans hz3, by rw [HS.out, HF.out, List.append_assoc]; rfl, hstore _ _ _ hJ3, by have := HRL.out; omega⟩
        case measure => rw [boxLen_eq hbx, boxLen_eq hx4]; exact HRL.out
      · gi_wp2
        refine bodyPost_ret (results_none rfl _ _ _) rfl ?_
        exact ⟨⟨_, rfl⟩, .inr ⟨pre ++ [t.extract 0 i], ⟨fieldsB (t.extract (i + 1) t.size), by rw [HS.out, HF.out, List.append_assoc]; rfl⟩, hJx3⟩⟩
end Go.Proofs.YtlnbkmlidmgbaaaDoor.P
