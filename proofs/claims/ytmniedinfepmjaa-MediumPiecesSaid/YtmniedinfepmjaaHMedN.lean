/- medium.New, and what Gather then does: an image. No conditions. -/
import Derived.Test.YtmniedinfepmjaaHMedG
namespace Go.Proofs.Ytmniedinfepmjaa.P
open Go Go.RowKit Go.Lib Go.Proofs Go.Sort Go.Proofs.YtmniedinfepmjaaW.PrintWords Go.Proofs.YtmniedinfepmjaaW.PrintLast Go.Proofs.YtmniedinfepmjaaW.PrintMore
set_option linter.unusedVariables false
def medium_New.f (l0 l1 : List Int) (a2 : Int) (l3 : List Int) : Option (List Int × List Int) :=
  if l0.length ≤ 140737488351232 ∧ l1.length ≤ 17592186040000 ∧ l3.length ≤ 17592186040000 then some (makeB (cutE l0 a2) (badL (cutE l0 a2).length l1), badL (cutE l0 a2).length l1) else none
theorem makeB_len0 : ∀ (z b : List Int), (makeB b z).length = b.length
  | [], b => rfl
  | x :: z, b => by
    have h : (zeroB b x).length = b.length := by
      unfold zeroB
      simp only [List.length_append, List.length_take, List.length_replicate, List.length_drop]
      omega
    have := makeB_len0 z (zeroB b x)
    rw [h] at this
    exact this
theorem medium_New.then (A0 : Option Addr) (c0 : Nat) (l0 : List Int) (A1 : Option Addr) (c1 : Nat) (l1 : List Int) (a2 : Int) (A3 : Option Addr) (c3 : Nat) (l3 : List Int) (r1 r2 : List Int) (w : World) (hr0 : Kd.C (Kd.int .u8) w A0 l0.length l0) (hc0 : l0.length ≤ c0) (hr1 : Kd.C (Kd.int .i64) w A1 l1.length l1) (hc1 : l1.length ≤ c1) (hr3 : Kd.C (Kd.int .i64) w A3 l3.length l3) (hc3 : l3.length ≤ c3) (h : medium_New.f l0 l1 a2 l3 = some (r1, r2)) :
    Calls Try.prog 17 #[.slice A0 l0.length c0, .slice A1 l1.length c1, .int .i64 a2, .slice A3 l3.length c3] w fun e w1 => ∃ g, e = .returned (.pointer (some ⟨g, 0, none⟩)) ∧
      Calls Try.prog 19 #[.pointer (some ⟨g, 0, none⟩)] w1 fun e w' => ∃ v0_ v1_ : Value, e = .returned (.agg #[v0_, v1_]) ∧ Kd.R (Kd.int .u8) 5 w' w.heap.size (fun _ => True) v0_ r1 ∧ Kd.R (Kd.int .i64) 3 w' w.heap.size (fun _ => True) v1_ r2 ∧ Below w.heap.size w w' := by
  unfold medium_New.f at h
  split at h
  · rename_i hh
    simp only [Option.some.injEq, Prod.mk.injEq] at h
    obtain ⟨rfl, rfl⟩ := h
    have hcl := cutE_len l0 a2
    have hbl := badL_len (cutE l0 a2).length l1
    have hml := makeB_len0 (badL (cutE l0 a2).length l1) (cutE l0 a2)
    refine (medium_New.calls A0 c0 l0 A1 c1 l1 a2 A3 c3 l3 w hr0 hc0 hr1 hc1 hr3 hc3 hh.1 hh.2.1 hh.2.2).mono ?_
    rintro e w1 ⟨g, rfl, ⟨v0, v1, v2, hm⟩, hb⟩
    refine ⟨g, rfl, ?_⟩
    refine (medium_Gather.calls w1 _ g v0 v1 v2 _ _ l3 0 0 hm (by omega) (by omega) (by omega) (by omega) (by omega) (by unfold NxOk; by_cases h : l3 = []; exact .inl h; exact .inr ⟨by omega, by have := List.length_pos_iff.2 h; omega⟩)).mono ?_
    rintro e w2 ⟨a, b, rfl, ha, hb2, _, hg⟩
    exact ⟨a, b, rfl, Kd.R_lower ha hb.size, Kd.R_lower hb2 hb.size, hb.grown hg hb.size (fun k e => by cases e; exact hm.2.2.2.2)⟩
  · cases h
end Go.Proofs.Ytmniedinfepmjaa.P
