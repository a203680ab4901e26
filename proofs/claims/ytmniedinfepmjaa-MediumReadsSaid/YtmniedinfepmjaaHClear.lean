/- clear(b[from:to]) of bytes of the call's own: the row behind it. No conditions. -/
import Derived.Lib.SliceRun
import Derived.Laws.AppendOwn
import Derived.WalkKit
import Derived.Test.YtmniedinfepmjaaPx0
namespace Go.Proofs.Ytmniedinfepmjaa.P
open Go Go.RowKit Go.Lib Go.Proofs Go.Proofs.YtmniedinfepmjaaW.PrintWords Go.Proofs.YtmniedinfepmjaaW.PrintLast Go.Proofs.YtmniedinfepmjaaW.PrintMore
set_option linter.unusedVariables false
set_option linter.unusedSimpArgs false

theorem wrap64_id (x : Int) (h0 : -9223372036854775808 ≤ x) (h1 : x ≤ 9223372036854775807) : wrap64 x = x := by
  unfold wrap64; omega
theorem next_i (i : Nat) (h : i < 9223372036854775807) : wrap64 ((i : Int) + 1) = ((i + 1 : Nat) : Int) := by rw [wrap64_id _ (by omega) (by omega)]; push_cast; rfl
theorem grown_setCells (g : Nat) (vs : List Value) (o : Nat) (w : World) : w.grownBy (w.setCells g o vs) (some g) := by
  obtain ⟨a, b, c, d⟩ := setCells_same g vs o w
  exact ⟨a, b, c, by omega, fun k _ hne => setCells_far vs o k (fun e => hne (by rw [e]))⟩
theorem clear_R {w : World} {base : Nat} {ok : Nat → Prop} {g cap : Nat} {l : List Int} (ty : TypeId) (hR : Kd.R (Kd.int .u8) 5 w base ok (.slice (some ⟨g, 0, none⟩) l.length cap) l) (o n c : Nat) (hn : 0 < n) (ho : o + n ≤ l.length) :
    (Builtin.clear_ #[22] ty #[.slice (some ⟨g, o, none⟩) n c]).run Try.prog w = .ok (.tuple #[]) (w.setCells g o (List.replicate n (.int .u8 0))) ∧
      Kd.R (Kd.int .u8) 5 (w.setCells g o (List.replicate n (.int .u8 0))) base ok (.slice (some ⟨g, 0, none⟩) l.length cap) (l.take o ++ List.replicate n 0 ++ l.drop (o + n)) ∧ w.grownBy (w.setCells g o (List.replicate n (.int .u8 0))) (some g) := by
  have how : w.ownsRow base 5 1 (.slice (some ⟨g, 0, none⟩) l.length cap) l.length (l.map (Value.int .u8)) := Kd.own_of_R (enc := Value.int .u8) (h1 := fun _ => rfl) hR
  rcases how.2 with ⟨e0, _⟩ | ⟨g', cap', cur, e0, hb, hg, hnc, hm, hs, ht⟩
  · cases e0
  · injection e0 with e1 _ e3
    injection e1 with e1
    injection e1 with e1
    subst e1; subst e3
    have hcs : l.length ≤ cur.size := by omega
    refine ⟨?_, ?_, grown_setCells g _ _ _⟩
    · refine run_clear_slice w _ 5 ty (.int .u8 0) Try.underlying22 Try.zeroValue5 rfl rfl g o n c hn (fun j hj => ?_) (fun j hj => blk_frozen hg _)
      rw [blk_cell hg, Array.getElem?_eq_getElem (by omega)]
      rfl
    · obtain ⟨cur', h3, h4, h5⟩ := setCells_row (List.replicate n (Value.int .u8 0)) o w cur hg (by rw [List.length_replicate]; omega)
      have hlen : (l.take o ++ List.replicate n 0 ++ l.drop (o + n)).length = l.length := by
        simp only [List.length_append, List.length_take, List.length_replicate, List.length_drop]
        omega
      refine Kd.R_of_own (enc := Value.int .u8) (h1 := fun _ => rfl) ?_ (fun k hk => hR.1 k (by simpa [Value.ownBlock] using hk))
      rw [hlen]
      refine ⟨by rw [encs, List.length_map, hlen]; omega, .inr ⟨g, cap, cur', rfl, hb, h3, hnc, hm, by rw [h4, hs], ?_⟩⟩
      rw [h5, Nat.mul_one, List.length_replicate]
      rw [Nat.mul_one] at ht
      have htk : cur.toList.take o = (l.take o).map (Value.int .u8) := by
        rw [List.map_take, ← ht, List.take_take, Nat.min_eq_left (by omega)]
      have hdr : (cur.toList.drop (o + n)).take (l.length - (o + n)) = (l.drop (o + n)).map (Value.int .u8) := by
        rw [List.map_drop, ← ht, List.drop_take]
      have hl1 : (cur.toList.take o ++ List.replicate n (Value.int .u8 0)).length = o + n := by
        rw [List.length_append, List.length_take, List.length_replicate, Array.length_toList]; omega
      rw [List.take_append, hl1, hdr, List.take_of_length_le (by rw [hl1]; exact ho), htk, encs, List.map_append, List.map_append, List.map_replicate]
end Go.Proofs.Ytmniedinfepmjaa.P
