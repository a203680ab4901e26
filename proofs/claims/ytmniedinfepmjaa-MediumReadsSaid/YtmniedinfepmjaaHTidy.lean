/- slices.DeleteFunc with Make's test, slices.Sort and slices.Compact at whole numbers, of a row of the call's own: the row behind it, and that nothing else has changed. No conditions. -/
import Derived.Lib.OwnBridge
import Derived.Lib.SlKeysI
import Derived.Lib.SliceRun
import Derived.WalkKit
import Derived.Test.YtmniedinfepmjaaHDelL
import Derived.Test.YtmniedinfepmjaaHLay
import Derived.Test.YtmniedinfepmjaaPx0
namespace Go.Proofs.Ytmniedinfepmjaa.P
open Go Go.RowKit Go.Lib Go.Proofs Go.Sort Go.Proofs.YtmniedinfepmjaaW.PrintWords Go.Proofs.YtmniedinfepmjaaW.PrintLast Go.Proofs.YtmniedinfepmjaaW.PrintMore
set_option linter.unusedVariables false
set_option linter.unusedSimpArgs false

/-- What Make leaves out: no number of a block. -/
def delP (n i : Int) : Bool := decide (i < 0) || decide (n ≤ i)
theorem gives_del (n x : Int) (B : Nat) (W : World) (hc : W.cell? ⟨B, 0, none⟩ = some (.int .i64 n)) :
    FnGives Try.prog 28 #[.pointer (some ⟨B, 0, none⟩)] #[.int .i64 x] (.bool (delP n x)) W := by
  show Calls Try.prog 28 #[.int .i64 x, .pointer (some ⟨B, 0, none⟩)] W _
  by_cases h1 : x < 0
  · have hd : delP n x = true := by unfold delP; rw [decide_eq_true h1]; rfl
    rw [hd]
    have c1 : decide (x < 0) = true := decide_eq_true h1
    clear hd
    go_enter Try.func28, Try.ntmps28
    go_wp2
    all_goals (repeat (go_quiet (fail)))
    all_goals (try go_wp2)
    all_goals (go_ret; exact ⟨by simp_all, 0, rfl⟩)
  · have c1 : decide (x < 0) = false := decide_eq_false h1
    by_cases h2 : n ≤ x
    · have c2 : decide (n ≤ x) = true := decide_eq_true h2
      have hd : delP n x = true := by unfold delP; rw [c2, c1]; rfl
      rw [hd]
      clear hd
      go_enter Try.func28, Try.ntmps28
      go_wp2
      all_goals (repeat (go_quiet (fail)))
      all_goals (try go_wp2)
      all_goals (go_ret; exact ⟨by simp_all, 0, rfl⟩)
    · have c2 : decide (n ≤ x) = false := decide_eq_false h2
      have hd : delP n x = false := by unfold delP; rw [c2, c1]; rfl
      rw [hd]
      clear hd
      go_enter Try.func28, Try.ntmps28
      go_wp2
      all_goals (repeat (go_quiet (fail)))
      all_goals (try go_wp2)
      all_goals (go_ret; exact ⟨by simp_all, 0, rfl⟩)
theorem grown_refl (w : World) (row : Option Nat) : w.grownBy w row := ⟨rfl, rfl, rfl, Nat.le_refl _, fun _ _ _ => rfl⟩
theorem grown_putRow {α : Type} [Inhabited α] {enc : α → Value} {w : World} {g q : Nat} {d : Array α} : w.grownBy (putRow enc (Sort.ahead w q) g 0 d) (some g) := by
  refine ⟨rfl, rfl, rfl, by simp [Sort.ahead], fun k hk hne => ?_⟩
  have : g ≠ k := fun e => hne (by rw [e])
  simp [putRow, mapBlock, Sort.ahead, Array.getElem?_modify, this]
theorem encs_int (zs : List Int) : encs (Value.int .i64) zs = zs.map (Value.int .i64) := rfl
/-- A row of whole numbers of the call's own: nil, or where it lies. -/
theorem row_cases {w : World} {base : Nat} {ok : Nat → Prop} {v : Value} {zs : List Int} (hR : Kd.R (Kd.int .i64) 3 w base ok v zs) :
    (v = .slice none 0 0 ∧ zs = []) ∨ ∃ g cap, v = .slice (some ⟨g, 0, none⟩) zs.length cap ∧ base ≤ g ∧ g < w.heap.size ∧ zs.length ≤ cap ∧ cap ≤ maxLen ∧ ok g ∧ Holds (Value.int .i64) w g 0 zs.toArray ∧ w.ownsRow base 3 1 (.slice (some ⟨g, 0, none⟩) zs.length cap) zs.length (zs.map (Value.int .i64)) := by
  have ho : w.ownsRow base 3 1 v zs.length (zs.map (Value.int .i64)) := Kd.own_of_R (enc := Value.int .i64) (h1 := fun _ => rfl) hR
  by_cases hv : v = .slice none 0 0
  · refine .inl ⟨hv, ?_⟩
    rcases ho.2 with ⟨_, h0⟩ | ⟨g, cap, cur, e, _⟩
    · exact List.eq_nil_of_length_eq_zero h0
    · rw [hv] at e; cases e
  · obtain ⟨g, cap, rfl, a, b, c, d, _, f⟩ := holds_of_ownsRow ho hv
    exact .inr ⟨g, cap, rfl, a, b, c, d, hR.1 g rfl, f, ho⟩
theorem R_back {w : World} {base : Nat} {ok : Nat → Prop} {g cap : Nat} {zs : List Int} (ho : w.ownsRow base 3 1 (.slice (some ⟨g, 0, none⟩) zs.length cap) zs.length (zs.map (Value.int .i64))) (hok : ok g) : Kd.R (Kd.int .i64) 3 w base ok (.slice (some ⟨g, 0, none⟩) zs.length cap) zs :=
  Kd.R_of_own (enc := Value.int .i64) (h1 := fun _ => rfl) ho (fun k hk => by simp [Value.ownBlock] at hk; rw [← hk]; exact hok)
theorem slices_Compact_R {w : World} {base : Nat} {ok : Nat → Prop} {v : Value} {zs : List Int} (hR : Kd.R (Kd.int .i64) 3 w base ok v zs) :
    Calls Try.prog 30 #[v] w fun e w' => ∃ v2, e = .returned v2 ∧ Kd.R (Kd.int .i64) 3 w' base ok v2 (Lib.compact zs) ∧ w.grownBy w' v.ownBlock ∧ v2.ownBlock = v.ownBlock := by
  rcases row_cases hR with ⟨rfl, rfl⟩ | ⟨g, cap, rfl, h1, h2, h3, h4, h5, h6, h7⟩
  · refine (Try.slices_Compact_int_empty none 0 w).mono ?_
    rintro e w' ⟨rfl, rfl⟩
    exact ⟨_, rfl, by rw [show Lib.compact ([] : List Int) = [] from rfl]; exact hR, grown_refl _ _, rfl⟩
  · refine (Try.slices_Compact_int g 0 cap zs w h6 (by unfold maxLen at h4; omega) h3).mono ?_
    rintro e w' ⟨rfl, q, rfl⟩
    have hc : (Lib.compact zs).length ≤ zs.length := Lib.compact_length_le zs
    refine ⟨_, rfl, R_back ?_ h5, grown_putRow, rfl⟩
    have := ownsRow_putRow (q := q) (k := (Lib.compact zs).length) (ys := Lib.compact zs ++ List.replicate (zs.length - (Lib.compact zs).length) 0) h7 (by simp; omega) hc
    rwa [List.take_left'] at this
    rfl
theorem slices_Sort_R {w : World} {base : Nat} {ok : Nat → Prop} {v : Value} {zs : List Int} (hs : zs.length < 4611686018427387904) (hR : Kd.R (Kd.int .i64) 3 w base ok v zs) :
    Calls Try.prog 29 #[v] w fun e w' => e = .returned (.tuple #[]) ∧ Kd.R (Kd.int .i64) 3 w' base ok v (zs.mergeSort fun x y => decide (x ≤ y)) ∧ w.grownBy w' v.ownBlock := by
  rcases row_cases hR with ⟨rfl, rfl⟩ | ⟨g, cap, rfl, h1, h2, h3, h4, h5, h6, h7⟩
  · refine (Any.slices_Sort_int_none Try.lays189 none 0 w).mono ?_
    rintro e w' ⟨rfl, rfl⟩
    exact ⟨rfl, by simpa using hR, grown_refl _ _⟩
  · refine (Try.slices_Sort_int g 0 cap zs w h6 h2 hs).mono ?_
    rintro e w' ⟨rfl, n, os, rfl⟩
    have hl : (zs.mergeSort fun x y => decide (x ≤ y)).length = zs.length := List.length_mergeSort _
    rcases h7.2 with ⟨e0, _⟩ | ⟨g', cap', cur, e0, hb, hg, hn, hm, hs, ht⟩
    · cases e0
    · injection e0 with e1 _ e3
      injection e1 with e1
      injection e1 with e1
      subst e1; subst e3
      have hown := ownsRow_sorted_i (n := n) (os := os) (ss := zs) hl h1 hg h3 h4 hs
      refine ⟨rfl, ?_, grownBy_sorted_i _⟩
      refine Kd.R_of_own (enc := Value.int .i64) (h1 := fun _ => rfl) ?_ (fun k hk => by simp [Value.ownBlock] at hk; rw [← hk]; exact h5)
      rw [hl]
      exact hown
theorem enters_del : ∀ args w, (callFunc 28 args).run Try.prog w = .ok (.enter 28 args) w := enters_of Try.func28 (by kernel_rfl) rfl
theorem slices_DeleteFunc_R {w : World} {base : Nat} {ok : Nat → Prop} {v : Value} {zs : List Int} (n : Int) (B : Nat) (hB : B < w.heap.size) (hne : v.ownBlock ≠ some B) (hcell : w.cell? ⟨B, 0, none⟩ = some (.int .i64 n)) (hR : Kd.R (Kd.int .i64) 3 w base ok v zs) :
    Calls Try.prog 26 #[v, .func (.func 28) #[] #[.pointer (some ⟨B, 0, none⟩)]] w fun e w' => ∃ v2, e = .returned v2 ∧ Kd.R (Kd.int .i64) 3 w' base ok v2 (zs.filter fun x => !delP n x) ∧ w.grownBy w' v.ownBlock ∧ v2.ownBlock = v.ownBlock := by
  rcases row_cases hR with ⟨rfl, rfl⟩ | ⟨g, cap, rfl, h1, h2, h3, h4, h5, h6, h7⟩
  · have hI : ∀ W, Calls Try.prog 37 #[.slice none 0 0, .func (.func 28) #[] #[.pointer (some ⟨B, 0, none⟩)]] W fun e w' => e = .returned (.int .i64 (-1)) ∧ w' = W := fun W => AnyE.slices_IndexFunc_empty (ρ := Try.laysDel_ren) { Try.laysDel with } none 0 _ W
    clear hcell hne
    go_enter Try.func26, Try.ntmps26
    go_wp2_with (go_at_call 37; refine (hI _).mono ?_; rintro e w' ⟨rfl, rfl⟩)
    go_ret
    exact ⟨_, rfl, hR, grown_refl _ _, rfl⟩
  · have hgB : B ≠ g := fun e => hne (by rw [e]; rfl)
    have hp : PredAt Try.prog 28 #[.pointer (some ⟨B, 0, none⟩)] (Value.int .i64) (delP n) w := fun W x hb => gives_del n x B W ((hb.cell (p := ⟨B, 0, none⟩) hB).trans hcell)
    have hpo : PredOver Try.prog 28 #[.pointer (some ⟨B, 0, none⟩)] (Value.int .i64) (delP n) g 0 zs.toArray.size w := fun m os dk x _ => gives_del n x B _ (by
      unfold sortWorld
      rw [cell?_grow _ _ _ (by show B < (putRow _ _ _ _ _).heap.size; rw [size_putRow]; exact hB), cell?_putRow_other _ _ g 0 _ _ (Or.inl hgB)]
      exact hcell)
    have hcon := AnyE.slices_DeleteFunc Try.laysDel (Value.int .i64) (fun _ => rfl) (delP n) 28 #[.pointer (some ⟨B, 0, none⟩)] enters_del 0 Try.zeroValue3 g 0 cap zs.toArray w hp hpo h6 (by unfold maxLen at h4; simp; omega) (by simpa using h3)
    change Calls Try.prog 26 #[.slice (some ⟨g, 0, none⟩) zs.length cap, _] _ _ at hcon
    refine hcon.mono ?_
    rintro e w' ⟨rfl, q, rfl⟩
    have hc : (zs.filter fun x => !delP n x).length ≤ zs.length := List.length_filter_le _ _
    refine ⟨_, rfl, R_back (zs := zs.filter fun x => !delP n x) ?_ h5, grown_putRow, rfl⟩
    have := ownsRow_putRow (q := q) (k := (zs.filter fun x => !delP n x).length) (ys := (zs.filter fun x => !delP n x) ++ List.replicate (zs.length - (zs.filter fun x => !delP n x).length) 0) h7 (by simp; omega) hc
    rwa [List.take_left'] at this
    rfl
end Go.Proofs.Ytmniedinfepmjaa.P
